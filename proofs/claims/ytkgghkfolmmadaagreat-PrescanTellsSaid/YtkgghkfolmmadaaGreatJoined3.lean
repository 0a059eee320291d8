/- Contracts and facts that the claim's row is drawn from, each with its own conditions. -/
import Derived.Test.YtkgghkfolmmadaaGreatJoined2
import Derived.Test.YtkgghkfolmmadaaGreatProg
import Derived.Below
import Derived.Deep.Draws
import Derived.Deep.AppendLies
import Derived.Maps.AppendAt
import Derived.OwnWalk
import Derived.Laws.BytesArg
import Derived.Laws.MakeOwn
import Derived.Laws.OwnMore
import Derived.Deep.OwnRows
import Derived.Tactics
import Derived.Lib.ConvBytes
import Derived.Laws.Slices
import Derived.WalkKit
import Derived.KernelRfl
import Derived.RowKit3
import Derived.Deep.LoopGhost
import Derived.Deep.QuietTactic
import Derived.BigQuiet
import Derived.WideLaws
import Derived.Deep.DeepCutAuto
import Derived.Deep.CutBlock
import Derived.Deep.RegionHeld3
import Derived.Laws.Rows
import Derived.Lib.AppendStr
import Derived.ArgAppend
import Derived.Laws.IdiomCopy
import Derived.OrdersHeld
import Derived.Laws.BitsLemmas
import Derived.RowKit
import Derived.StillTailTactics
import Derived.Lib.Hide
import Derived.Lib.SliceRun
import Derived.Shelf.Spec.SlicesInsert
import Derived.Lib.AppendZerosOnto
import Derived.Laws.CopyRow
import Derived.BigRegion
import Derived.Outline
set_option linter.unusedSimpArgs false
set_option linter.unusedVariables false
set_option maxHeartbeats 8000000
set_option maxRecDepth 100000
open Go.Proofs Go.RowKit
namespace Go.Y.pW
open Go.Proofs.aj.aC Go.Y.Given Go.Y.PRd Go.Y.uP Go.Y.eD Go.Y.Oct
def nums (d : List (Int × ByteArray)) : Int := d.foldl (fun n x => wrap64 (n + (x.2.size : Int))) 0
theorem Gj (d : List (Int × ByteArray)) (x : Int × ByteArray) : nums (d ++ [x]) = wrap64 (nums d + (x.2.size : Int)) := by unfold nums; rw [List.foldl_append]; rfl
theorem JR : ∀ (d : List (Int × ByteArray)) (n : Nat), n + tot d ≤ 1000000000 → d.foldl (fun n x => wrap64 (n + (x.2.size : Int))) (n : Int) = ((n + tot d : Nat) : Int) := by
 intro d
 induction d with
 | nil => intro n _; simp [tot]
 | cons x d ih =>
  intro n h
  rw [vF] at h ⊢
  rw [List.foldl_cons, show wrap64 ((n : Int) + (x.2.size : Int)) = ((n + x.2.size : Nat) : Int) by unfold wrap64; omega, ih _ (by omega)]
  omega
theorem GZ {d : List (Int × ByteArray)} (h : tot d ≤ 1000000000) : nums d = (tot d : Int) := by
 unfold nums; have := JR d 0 (by omega); rw [Nat.zero_add] at this; exact this
theorem ES (kind n : Int) (s : ByteArray) (B : Nat) (W : World) (h : W.heap[B]? = some (.cells #[.int .i64 n] 3 (0, 0))) :
  Calls Tryz.prog 119 (#[.int .i64 kind, .string s] ++ #[.pointer (some ⟨B, 0, none⟩)]) W fun e w' => e = .returned (.tuple #[]) ∧ w' = W.setCell ⟨B, 0, none⟩ (.int .i64 (wrap64 (n + (s.size : Int)))) := by
 have hc := aJ h 0
 have hf := bA h 0
 have hc' : W.cell? ⟨B, 0, none⟩ = some (.int .i64 n) := hc
 clear hc h
 go_enter Tryz.func119, Tryz.ntmps119
 go_wp2
 go_end0
 exact ⟨rfl, rfl⟩
def JU (B : Nat) (d : List (Int × ByteArray)) (F : Nat → Prop) (W : World) : Prop := (∀ k, F k ↔ k = B) ∧ W.heap[B]? = some (.cells #[.int .i64 (nums d)] 3 (0, 0))
theorem counts (B : Nat) : Ec 119 #[.pointer (some ⟨B, 0, none⟩)] (JU B) where
 rest := fun d F W W' h hb => ⟨F, ⟨h.1, (hb.block B (fQ h.2)).trans h.2⟩, fun k hk => .inl hk⟩
 lt := fun d F W k h hk => by rw [(h.1 k).mp hk]; exact fQ h.2
 take := fun d F W kind s _ _ h => (ES kind (nums d) s B W h.2).mono fun e w' ⟨he, hw⟩ => ⟨he, F, ⟨h.1, by rw [hw, Gj]; exact bH h.2 0 _ rfl⟩, by rw [hw]; exact Tch.setCell (S := F) (p := ⟨B, 0, none⟩) ((h.1 B).mpr rfl) _, fun k hk => .inl hk⟩
 enters := enters_of Tryz.func119 (by kernel_rfl) rfl
theorem Ia (t : Int) (B : ByteArray) (hB : B.size ≤ 1000000) : tot (dW B (eH t) 0).1 ≤ 1000000000 := by
 have h := nZ B hB (eH t) 0
 have h7 := kQ t
 have : ∀ l : List (Int × ByteArray), (∀ x ∈ l, x.2.size ≤ 1000000) → tot l ≤ 1000000 * l.length := by
  intro l
  induction l with
  | nil => intro _; simp [tot]
  | cons x l ih =>
   intro hl
   rw [vF, List.length_cons]
   have := ih fun y hy => hl y (List.mem_cons_of_mem _ hy)
   have := hl x (List.mem_cons_self ..)
   omega
 have := this _ h.1
 omega
theorem iY (t : Int) (B : ByteArray) (w : World) (hs : B.size ≤ 9223372036854775807) :
  Calls Tryz.prog 86 #[.int .i64 t, .string B] w fun e w' => e = .returned (.bool (jB t B)) ∧ Below w.heap.size w w' := by
 by_cases hB : B.size ≤ 65535
 ·have t0 : decide (65535 < (B.size : Int)) = false := decide_eq_false (by omega)
  have t0' : decide (65535 < B.size) = false := decide_eq_false (by omega)
  have htot := Ia t B (by omega)
  have hsz := nZ B (by omega) (eH t) 0
  have hnum := GZ htot
  have hw := EO B (by omega) (FU + 1) (Nat.le_succ _) (eH t) 0 (wE t) (Nat.zero_le _)
  have hrd : jB t B = ((dW B (eH t) 0).2 && decide (tot (dW B (eH t) 0).1 = B.size)) := by unfold jB; rw [decide_eq_true hB, Bool.true_and]
  have HR := Lib.hid (BZ t (FU + 1) (Nat.succ_le_succ (Nat.zero_le _)))
  obtain ⟨⟨ps, b⟩, hp⟩ : ∃ x, dW B (eH t) 0 = x := ⟨_, rfl⟩
  rw [hp] at hw hnum htot hrd hsz
  simp only at hrd
  rw [hrd]
  have HW := Lib.hid hw
  have HN := Lib.hid hnum
  have HL := Lib.hid (kQ t)
  have HSZ := Lib.hid hsz.1
  have HL7 := Lib.hid (Nat.le_trans hsz.2 (kQ t))
  clear hw hnum hrd hp hsz
  simp only at htot
  go_enter Tryz.func86, Tryz.ntmps86
  go_wp2_with fail
  refine (Aw (counts w.heap.size) (FU + 1) B 0 (B.size : Int) t (eH t) HR.out [] ps b HW.out (fun k => k = w.heap.size) _ ⟨fun k => Iff.rfl, ?_⟩ (by have := HL.out; omega) HSZ.out (by have := HL7.out; simp; omega)).mono ?_
  ·first | exact bH (heap_alloc_new w _) 0 _ rfl | exact heap_alloc_new w _
  rintro e w1 ⟨rfl, F', hst, ht, _⟩
  have hbel : Below w.heap.size w w1 := by
   have hb0 : Below w.heap.size w (w.alloc (.cells #[.int .i64 0] 3)) := (Below.refl _ w).alloc (Nat.le_refl _) _
   exact hb0.trans (ht.below hb0.size fun k hk => by rw [hk]; exact Nat.le_refl _)
  have hc := aJ hst.2 0
  rw [List.nil_append, HN.out] at hc
  have hc' : w1.cell? ⟨w.heap.size, 0, none⟩ = some (.int .i64 (tot ps : Int)) := hc
  have HBEL := Lib.hid hbel
  clear hc hst ht hbel
  cases b with
  | false =>
   go_wp2_with fail
   go_ret
   exact ⟨by simp, HBEL.out⟩
  | true =>
   cases he : decide (tot ps = B.size) with
   | true =>
    have h1 := of_decide_eq_true he
    have t1 : ((tot ps : Int) == (B.size : Int)) = true := beq_iff_eq.mpr (by omega)
    have t1' : (tot ps == B.size) = true := beq_iff_eq.mpr h1
    clear h1 he
    go_wp2_with fail
    go_ret
    refine ⟨?_, HBEL.out⟩
    have h2 := t1'
    simp at h2
    simp [h2]
   | false =>
    have h1 := of_decide_eq_false he
    have t1 : ((tot ps : Int) == (B.size : Int)) = false := beq_eq_false_iff_ne.mpr (by omega)
    have t1' : (tot ps == B.size) = false := beq_eq_false_iff_ne.mpr h1
    clear h1 he
    go_wp2_with fail
    go_ret
    refine ⟨?_, HBEL.out⟩
    have h2 := t1'
    simp at h2
    simp [h2]
 ·have hr : jB t B = false := by unfold jB; rw [decide_eq_false hB]; rfl
  have t0 : decide (65535 < (B.size : Int)) = true := decide_eq_true (by omega)
  have t0' : decide (65535 < B.size) = true := decide_eq_true (by omega)
  rw [hr]
  clear hr
  go_enter Tryz.func86, Tryz.ntmps86
  go_wp2_with fail
  go_ret
  exact ⟨rfl, Below.refl _ _⟩
def nN (d : List (Int × ByteArray)) : List UInt8 := (d.map fun x => (gB x).data.toList).flatten
theorem yx (d : List (Int × ByteArray)) (x : Int × ByteArray) : nN (d ++ [x]) = nN d ++ (gB x).data.toList := by unfold nN; simp
theorem IU (d : List (Int × ByteArray)) : (⟨(nN d).toArray⟩ : ByteArray) = cat (d.map gB) := by
 apply gV
 rw [vo, List.map_map]
 show (nN d).toArray.toList = _
 unfold nN
 simp [Function.comp_def]
abbrev BT := 130
abbrev BE := 5
theorem zV {T e : TypeId} {lo b : Nat} {p : Value} {bs : List Value} {w w' : World} (h : Lib.BuilderAtF T e lo b p bs w) (hb : Below w.heap.size w w') : Lib.BuilderAtF T e lo b p bs w' := by
 obtain ⟨h1, v, h2, h3, h4⟩ := h
 refine ⟨h1, v, (hb.block b (fQ h2)).trans h2, ?_, h4⟩
 refine ⟨h3.1, ?_⟩
 rcases h3.2 with h | ⟨g, cap, cur, fz, hv, hl, hh, r⟩
 ·exact .inl h
 ·exact .inr ⟨g, cap, cur, fz, hv, hl, (hb.block g (fQ hh)).trans hh, r⟩
theorem Hz {T e : TypeId} {lo b : Nat} {bs : List Value} {w w' : World} (h : Lib.IsBuilderF T e lo b bs w) (hb : Below w.heap.size w w') : Lib.IsBuilderF T e lo b bs w' := h.imp (fun h => zV h hb) (fun h => zV h hb)
theorem Lc {T e : TypeId} {lo b : Nat} {bs : List Value} {w : World} (h : Lib.IsBuilderF T e lo b bs w) : lo ≤ b ∧ b < w.heap.size := by
 rcases h with ⟨h1, v, h2, _⟩ | ⟨h1, v, h2, _⟩ <;> exact ⟨h1, fQ h2⟩
def foot (lo b : Nat) (W : World) (k : Nat) : Prop := lo ≤ k ∧ k < W.heap.size ∧ (k = b ∨ ∃ c fz, W.heap[k]? = some (.cells c BE fz))
def lS (lo b : Nat) (d : List (Int × ByteArray)) (F : Nat → Prop) (W : World) : Prop := (∀ k, F k ↔ foot lo b W k) ∧ Lib.IsBuilderF BT BE lo b (Lib.byteCells (nN d)) W ∧ lo ≤ W.heap.size ∧ (nN d).length ≤ d.length * 1000000
theorem EY (lo b : Nat) (d : List (Int × ByteArray)) (x : Int × ByteArray) (F : Nat → Prop) (W W' : World) (h : lS lo b d F W) (hx : (gB x).size ≤ 1000000)
  (h1 : Lib.BuilderAtF BT BE lo b (.pointer (some ⟨b, 0, none⟩)) (Lib.byteCells (nN d) ++ Lib.strCells (gB x)) W') (h2 : Below lo W W') (h3 : Lib.OthersKept BE (some b) W W') :
  ∃ F', lS lo b (d ++ [x]) F' W' ∧ Tch F W W' ∧ ∀ k, F' k → F k ∨ W.heap.size ≤ k := by
 have hcells : Lib.byteCells (nN d) ++ Lib.strCells (gB x) = Lib.byteCells (nN (d ++ [x])) := by rw [yx]; simp [Lib.byteCells, Lib.strCells]
 rw [hcells] at h1
 have keep : ∀ k, k < W.heap.size → ¬ F k → W'.heap[k]? = W.heap[k]? := fun k hk hn => by
  by_cases hl : k < lo
  ·exact h2.block k hl
  ·obtain ⟨o, ho⟩ : ∃ o, W.heap[k]? = some o := ⟨W.heap[k], Array.getElem?_eq_getElem hk⟩
   rw [ho]
   refine h3 k o ho (fun e => hn ((h.1 k).mpr ⟨by omega, hk, .inl (Option.some.inj e)⟩)) fun c fz e => hn ((h.1 k).mpr ⟨by omega, hk, .inr ⟨c, fz, by rw [ho, e]⟩⟩)
 refine ⟨foot lo b W', ⟨fun k => Iff.rfl, .inr h1, Nat.le_trans h.2.2.1 h2.size, ?_⟩, ⟨h2.os, h2.tape, h2.output, h2.size, keep⟩, fun k hk => ?_⟩
 ·rw [yx, List.length_append, List.length_append, cO]
  have := h.2.2.2
  simp only [List.length_cons, List.length_nil]
  omega
 ·by_cases hlt : k < W.heap.size
  ·left
   by_cases hF : F k
   ·exact hF
   ·have hke := keep k hlt hF
    refine (h.1 k).mpr ⟨hk.1, hlt, ?_⟩
    rcases hk.2.2 with e | ⟨c, fz, e⟩
    ·exact .inl e
    ·exact .inr ⟨c, fz, by rw [← hke]; exact e⟩
  ·exact .inr (by omega)
theorem yK (lo b : Nat) (d : List (Int × ByteArray)) (F : Nat → Prop) (W W' : World) (h : lS lo b d F W) (hb : Below W.heap.size W W') : ∃ F', lS lo b d F' W' ∧ ∀ k, F' k → F k ∨ W.heap.size ≤ k ∧ ∃ c fz, W'.heap[k]? = some (.cells c BE fz) := by
 refine ⟨foot lo b W', ⟨fun k => Iff.rfl, Hz h.2.1 hb, Nat.le_trans h.2.2.1 hb.size, h.2.2.2⟩, fun k hk => ?_⟩
 by_cases hlt : k < W.heap.size
 ·left
  refine (h.1 k).mpr ⟨hk.1, hlt, ?_⟩
  rcases hk.2.2 with e | ⟨c, fz, e⟩
  ·exact .inl e
  ·exact .inr ⟨c, fz, by rw [← hb.block k hlt]; exact e⟩
 ·right
  refine ⟨by omega, ?_⟩
  rcases hk.2.2 with e | e
  ·have := (Lc h.2.1).2; omega
  ·exact e
theorem ER (lo b : Nat) (d : List (Int × ByteArray)) (F : Nat → Prop) (W : World) (kind : Int) (s : ByteArray) (hs : s.size ≤ 1000000) (hd : d.length < 100) (h : lS lo b d F W) :
  Calls Tryz.prog 135 (#[.int .i64 kind, .string s] ++ #[.pointer (some ⟨b, 0, none⟩)]) W fun e w' => e = .returned (.tuple #[]) ∧ ∃ F', lS lo b (d ++ [(kind, s)]) F' w' ∧ Tch F W w' ∧ ∀ k, F' k → F k ∨ W.heap.size ≤ k := by
 have hx := za (x := (kind, s)) hs
 have HX := Lib.hid hx
 have H := Lib.hid h
 have hw : ∀ (x : ByteArray) (F1 : Nat → Prop) (W1 : World), gB (kind, s) = x → lS lo b d F1 W1 → Calls Tryz.prog 136 #[.pointer (some ⟨b, 0, none⟩), .string x] W1 fun e w' => e = .returned (.tuple #[.int .i64 x.size, .nilIface]) ∧ ∃ F', lS lo b (d ++ [(kind, s)]) F' w' ∧ Tch F1 W1 w' ∧ ∀ k, F' k → F1 k ∨ W1.heap.size ≤ k := by
  intro x F1 W1 hxe h1
  have h4 := h1.2.2.2
  refine (Shelf.zn lo b _ x W1 h1.2.1 (by simp [Lib.byteCells]; rw [← hxe]; omega) h1.2.2.1).mono ?_
  rintro e w' ⟨he, hb, hbel, hoth⟩
  exact ⟨he, EY lo b d (kind, s) F1 W1 w' h1 hx (by rw [hxe]; exact hb) hbel hoth⟩
 have HW := Lib.hid hw
 clear hw hx h
 by_cases hk : kind = -1 ∨ kind = -2
 ·have hfp : gB (kind, s) = gX s := by unfold gB; rw [if_pos hk]
  have HFP := Lib.hid hfp
  clear hfp
  have hfold := fun W' => iq.calls s (gX s) W' (Fe s)
  go_enter Tryz.func135, Tryz.ntmps135
  rcases hk with rfl | rfl
  all_goals
   go_wp2_with fail
   refine (hfold _).mono ?_
   rintro e w1 ⟨rfl, hb1⟩
   obtain ⟨F1, h1, hf1⟩ := yK lo b d F W w1 H.out hb1
   have HC := Lib.hid (HW.out (gX s) F1 w1 HFP.out h1)
   have HB1 := Lib.hid hb1
   have HF1 := Lib.hid hf1
   clear h1 hb1 hf1
   go_wp2_with fail
   refine (HC.out).mono ?_
   rintro e w2 ⟨rfl, F2, h2, ht2, hf2⟩
   have hsz := HB1.out.size
   have hpost : lS lo b (d ++ [_]) F2 w2 ∧ Tch F W w2 ∧ ∀ k, F2 k → F k ∨ W.heap.size ≤ k := ⟨h2, (Tch.of_below (S := F) HB1.out).fresh ht2 fun k hk => (HF1.out k hk).imp id fun h => h.1, fun k hk => by
    rcases hf2 k hk with e | e
    ·rcases HF1.out k e with e | e
     ·exact .inl e
     ·exact .inr e.1
    ·exact .inr (by omega)⟩
   have HP := Lib.hid hpost
   clear h2 ht2 hf2 hpost
   go_wp2_with fail
   go_end0
   exact ⟨rfl, F2, HP.out⟩
 ·have hfp : gB (kind, s) = s := by unfold gB; rw [if_neg hk]
  have HFP := Lib.hid hfp
  clear hfp
  have t1 : (kind == -1) = false := beq_eq_false_iff_ne.mpr fun e => hk (.inl e)
  have t2 : (kind == -2) = false := beq_eq_false_iff_ne.mpr fun e => hk (.inr e)
  clear hk
  go_enter Tryz.func135, Tryz.ntmps135
  go_wp2_with fail
  refine (HW.out s F W HFP.out H.out).mono ?_
  rintro e w2 ⟨rfl, F2, h2, ht2, hf2⟩
  have HP := Lib.hid (And.intro h2 (And.intro ht2 hf2))
  clear h2 ht2 hf2
  go_wp2_with fail
  go_end0
  exact ⟨rfl, F2, HP.out⟩
theorem folds (lo b : Nat) : Ec 135 #[.pointer (some ⟨b, 0, none⟩)] (lS lo b) where
 rest := yK lo b
 lt := fun d F W k h hk => ((h.1 k).mp hk).2.1
 take := ER lo b
 enters := enters_of Tryz.func135 (by kernel_rfl) rfl
theorem zk (w : World) : lS w.heap.size w.heap.size [] (foot w.heap.size w.heap.size (w.alloc (.cells #[.pointer none, .slice none 0 0] BT))) (w.alloc (.cells #[.pointer none, .slice none 0 0] BT)) :=
 ⟨fun k => Iff.rfl, Lib.IsBuilderF.of (.inl ⟨Nat.le_refl _, .slice none 0 0, heap_alloc_new w _, ⟨rfl, .inl ⟨rfl, rfl⟩⟩, by simp [Value.ownBlock]⟩), by simp, Nat.zero_le _⟩
theorem IQ (t : Int) (B : ByteArray) (w : World) (hs : B.size ≤ 9223372036854775807) :
  Calls Tryz.prog 111 #[.int .i64 t, .string B] w fun e w' => e = .returned (.string (oG t B)) ∧ Below w.heap.size w w' := by
 have hright := fun W => iY t B W hs
 cases hr : jB t B with
 | false =>
  have hf : oG t B = ⟨#[]⟩ := by unfold oG; rw [hr]; rfl
  rw [hf]
  rw [hr] at hright
  clear hf hr
  go_enter Tryz.func111, Tryz.ntmps111
  go_wp2_with fail
  refine (hright _).mono ?_
  rintro e w1 ⟨rfl, hb1⟩
  go_wp2_with fail
  go_ret
  exact ⟨rfl, hb1⟩
 | true =>
  have hB : B.size ≤ 65535 := by unfold jB at hr; simp only [Bool.and_eq_true, decide_eq_true_eq] at hr; exact hr.1.1
  have hf : oG t B = ⟨(nN (dW B (eH t) 0).1).toArray⟩ := by unfold oG; rw [if_pos hr, IU]
  have hsz := nZ B (by omega) (eH t) 0
  have hw := EO B (by omega) (FU + 1) (Nat.le_succ _) (eH t) 0 (wE t) (Nat.zero_le _)
  obtain ⟨⟨ps, b⟩, hp⟩ : ∃ x, dW B (eH t) 0 = x := ⟨_, rfl⟩
  rw [hp] at hw hf hsz
  rw [hf]
  rw [hr] at hright
  have HR := Lib.hid (BZ t (FU + 1) (Nat.succ_le_succ (Nat.zero_le _)))
  have HW := Lib.hid hw
  have HL := Lib.hid (kQ t)
  have HSZ := Lib.hid hsz.1
  have HL7 := Lib.hid (Nat.le_trans hsz.2 (kQ t))
  clear hw hf hsz hp hr
  go_enter Tryz.func111, Tryz.ntmps111
  go_wp2_with fail
  refine (hright _).mono ?_
  rintro e w1 ⟨rfl, hb1⟩
  have HB1 := Lib.hid hb1
  clear hb1 hright
  go_wp2_with fail
  have hst := zk w1
  refine (Aw (folds w1.heap.size w1.heap.size) (FU + 1) B 0 (B.size : Int) t (eH t) HR.out [] ps b HW.out _ _ hst (by have := HL.out; omega) HSZ.out (by have := HL7.out; simp at this ⊢; omega)).mono ?_
  rintro e w2 ⟨rfl, F', hst2, ht, _⟩
  have hb2 : Below w.heap.size w w2 := by
   have h0 : Below w1.heap.size w1 (w1.alloc (.cells #[.pointer none, .slice none 0 0] BT)) := (Below.refl _ w1).alloc (Nat.le_refl _) _
   exact gu HB1.out HB1.out.size (h0.trans (ht.below h0.size fun k hk => hk.1))
  rw [List.nil_append] at hst2
  have H2 := Lib.hid hst2
  have HB2 := Lib.hid hb2
  clear hst hst2 ht hb2
  go_wp2_with fail
  refine (Shelf.Iy w1.heap.size w1.heap.size (nN ps) w2 H2.out.2.1 H2.out.2.2.1).mono ?_
  rintro e w3 ⟨rfl, _, hb3, _⟩
  have HB3 := Lib.hid (show Below w.heap.size w w3 from HB2.out.trans (hb3.mono HB1.out.size))
  clear hb3
  go_wp2_with fail
  go_ret
  exact ⟨rfl, HB3.out⟩
end Go.Y.pW
namespace Go.Y.Given
open Go.Y.eD Go.Y.pW
def iQ.f (a0 : Int) (a1 : ByteArray) : Option Bool := if a1.size ≤ 9223372036854775807 then some (jB a0 a1) else none
theorem iQ.calls (a0 : Int) (a1 : ByteArray) (r : Bool) (w : World) (h : iQ.f a0 a1 = some r) :
  Calls Tryz.prog 86 #[.int .i64 a0, .string a1] w fun e w' => e = .returned (.bool r) ∧ Below w.heap.size w w' := by
 unfold iQ.f at h
 split at h
 ·injection h with h; subst h; exact iY a0 a1 w (by assumption)
 ·cases h
def kR.f (a0 : Int) (a1 : ByteArray) : Option ByteArray := if a1.size ≤ 9223372036854775807 then some (oG a0 a1) else none
theorem kR.calls (a0 : Int) (a1 : ByteArray) (r : ByteArray) (w : World) (h : kR.f a0 a1 = some r) :
  Calls Tryz.prog 111 #[.int .i64 a0, .string a1] w fun e w' => e = .returned (.string r) ∧ Below w.heap.size w w' := by
 unfold kR.f at h
 split at h
 ·injection h with h; subst h; exact IQ a0 a1 w (by assumption)
 ·cases h
end Go.Y.Given
namespace Go.Y.PRr
open Go.Proofs.aj.aC Go.Proofs.aj.aT Go.Proofs.aj.aV Go.Y.Given Go.Y.PRd
attribute [local go_sem] dK dN dY dX dB dA dL dM
def jI : Option Int → Value
 | none => .nilIface
 | some c => .iface 0 (.int .i64 c)
theorem iE : jI none = .nilIface := rfl
theorem iF (c : Int) : jI (some c) = .iface 0 (.int .i64 c) := rfl
theorem nA : (Tryz.prog.info? 28).map (fun i => (i.zero, i.size, i.bytes)) = some (some (.agg #[(.string ⟨#[]⟩), (.int .i64 0), (.int .i64 0), (.int .i64 0), (.string ⟨#[]⟩)]), 5, 56) := by kernel_rfl
structure S28 where
 f0 : ByteArray
 f1 : Int
 f2 : Int
 f3 : Int
 f4 : ByteArray
def z28 : S28 := ⟨(⟨#[]⟩ : ByteArray), (0 : Int), (0 : Int), (0 : Int), (⟨#[]⟩ : ByteArray)⟩
def k28 : Kd S28 := Kd.iso (Kd.pair Kd.string (Kd.pair (Kd.int .i64) (Kd.pair (Kd.int .i64) (Kd.pair (Kd.int .i64) Kd.string)))) (fun x : S28 => (x.f0, x.f1, x.f2, x.f3, x.f4))
theorem zN {w : World} {x : S28} {cs : List Value} (h : k28.K w x cs) : cs = [.string x.f0, .int .i64 x.f1, .int .i64 x.f2, .int .i64 x.f3, .string x.f4] := by
 obtain ⟨_, _, rfl, rfl, ⟨_, _, rfl, rfl, ⟨_, _, rfl, rfl, ⟨_, _, rfl, rfl, rfl⟩⟩⟩⟩ := h
 exact rfl
theorem Fw {w : World} {base : Nat} {ok : Nat → Prop} {x : S28} {cs : List Value} (h : k28.M w base ok x cs) : cs = [.string x.f0, .int .i64 x.f1, .int .i64 x.f2, .int .i64 x.f3, .string x.f4] := by
 obtain ⟨_, _, rfl, rfl, ⟨_, _, rfl, rfl, ⟨_, _, rfl, rfl, ⟨_, _, rfl, rfl, rfl⟩⟩⟩⟩ := h
 exact rfl
theorem KW (w : World) (x : S28)  : k28.K w x [.string x.f0, .int .i64 x.f1, .int .i64 x.f2, .int .i64 x.f3, .string x.f4] := ⟨[.string x.f0], [.int .i64 x.f1, .int .i64 x.f2, .int .i64 x.f3, .string x.f4], rfl, rfl, ⟨[.int .i64 x.f1], [.int .i64 x.f2, .int .i64 x.f3, .string x.f4], rfl, rfl, ⟨[.int .i64 x.f2], [.int .i64 x.f3, .string x.f4], rfl, rfl, ⟨[.int .i64 x.f3], [.string x.f4], rfl, rfl, rfl⟩⟩⟩⟩
theorem jF (w : World) (base : Nat) (ok : Nat → Prop) (x : S28)  : k28.M w base ok x [.string x.f0, .int .i64 x.f1, .int .i64 x.f2, .int .i64 x.f3, .string x.f4] := ⟨[.string x.f0], [.int .i64 x.f1, .int .i64 x.f2, .int .i64 x.f3, .string x.f4], rfl, rfl, ⟨[.int .i64 x.f1], [.int .i64 x.f2, .int .i64 x.f3, .string x.f4], rfl, rfl, ⟨[.int .i64 x.f2], [.int .i64 x.f3, .string x.f4], rfl, rfl, ⟨[.int .i64 x.f3], [.string x.f4], rfl, rfl, rfl⟩⟩⟩⟩
def ak (xs : List S28) (i : Int) : S28 := xs.getD i.toNat z28
theorem eX {w : World} {A : Option Addr} {n : Nat} {xs : List S28} (h : Kd.C k28 w A n xs) (i : Int) (h0 : 0 ≤ i) (h1 : i < n) : ∃ ad , A = some ad ∧ w.cell? (ad.add (i.toNat * 5)) = some (.string (ak xs i).f0) ∧ w.cell? ⟨(ad.add (i.toNat * 5)).block, (ad.add (i.toNat * 5)).off + 1, none⟩ = some (.int .i64 (ak xs i).f1) ∧ w.cell? ⟨(ad.add (i.toNat * 5)).block, (ad.add (i.toNat * 5)).off + 2, none⟩ = some (.int .i64 (ak xs i).f2) ∧ w.cell? ⟨(ad.add (i.toNat * 5)).block, (ad.add (i.toNat * 5)).off + 3, none⟩ = some (.int .i64 (ak xs i).f3) ∧ w.cell? ⟨(ad.add (i.toNat * 5)).block, (ad.add (i.toNat * 5)).off + 4, none⟩ = some (.string (ak xs i).f4) := by
 obtain ⟨ad, c, e, _, hK, hc0⟩ := Kd.Ls h z28 i h0 h1
 have hc : ∀ j u, c[j]? = some u → w.cell? (ad.add (i.toNat * 5 + j)) = some u := hc0
 obtain rfl := zN hK
 exact ⟨ad, e, hc 0 _ rfl, by rw [← pR _ _ 1 (by omega)]; exact hc 1 _ rfl, by rw [← pR _ _ 2 (by omega)]; exact hc 2 _ rfl, by rw [← pR _ _ 3 (by omega)]; exact hc 3 _ rfl, by rw [← pR _ _ 4 (by omega)]; exact hc 4 _ rfl⟩
end Go.Y.PRr
namespace Go.Y.PRr
open Go.Proofs.aj.aC Go.Proofs.aj.aT Go.Proofs.aj.aV Go.Y.Given Go.Y.PRd
attribute [local go_sem] dK dN dY dX dB dA dL dM
def jJ.f (a0_0 : ByteArray) (a0_1 : Int) (a0_2 : Int) (a0_3 : Int) (a0_4 : ByteArray) : Option (Bool) := if a0_2 = 1 then (some true) else (if a0_2 = 254 then (some (!a0_4.toList.isEmpty)) else (some false))
theorem jJ.calls (a0_0 : ByteArray) (a0_1 : Int) (a0_2 : Int) (a0_3 : Int) (a0_4 : ByteArray) (r : Bool) (w : World) (h : jJ.f a0_0 a0_1 a0_2 a0_3 a0_4 = some r) :
    Calls Tryz.prog 85 #[.agg #[.string a0_0, .int .i64 a0_1, .int .i64 a0_2, .int .i64 a0_3, .string a0_4]] w fun e w' => e = .returned (.bool r) ∧ Below w.heap.size w w' := by
  have hu28 := Tryz.underlying28
  have HB := ah.mk (Below.refl w.heap.size w)
  have H : (if a0_2 = 1 then (some true) else (if a0_2 = 254 then (some (!a0_4.toList.isEmpty)) else (some false))) = some r := h
  clear h
  by_cases c2 : a0_2 = 1
  focus
   rw [if_pos c2] at H
   have c2b0 : (a0_2 == 1) = true := beq_iff_eq.mpr c2
   have c2b1 : (a0_2 != 1) = false := bne_eq_false_iff_eq.mpr c2
   clear c2
  rotate_left
  focus
   rw [if_neg c2] at H
   have c2b0 : (a0_2 == 1) = false := beq_eq_false_iff_ne.mpr c2
   have c2b1 : (a0_2 != 1) = true := bne_iff_ne.mpr c2
   by_cases c5 : a0_2 = 254
   focus
    rw [if_pos c5] at H
    have c5b0 : (a0_2 == 254) = true := beq_iff_eq.mpr c5
    have c5b1 : (a0_2 != 254) = false := bne_eq_false_iff_eq.mpr c5
    clear c5
   rotate_left
   focus
    rw [if_neg c5] at H
    have c5b0 : (a0_2 == 254) = false := beq_eq_false_iff_ne.mpr c5
    have c5b1 : (a0_2 != 254) = true := bne_iff_ne.mpr c5
   rotate_left
  rotate_left 2
  all_goals
   obtain rfl := Option.some.inj H
   go_enter Tryz.func85, Tryz.ntmps85
   go_wp2_with ((((with_reducible refine bY (N := 1) rfl ?_); refine dx ?hg (N := 1) ?hd (cs := #[.string a0_0, .int .i64 a0_1, .int .i64 a0_2, .int .i64 a0_3, .string a0_4]) (t := 28) ?hr ?_; (case hd => rfl); (case hg => rfl); (case hr => (go_simp; done)); intro gb101 hg w3 hbox hb; have BK101 := ah.mk (hbox); have GW101 := ah.mk (ge_ hg (av HB.out)); have GE101 := ah.mk (ge_ hg (av HB.out)); replace HB := ah.mk (au HB.out hb); clear hb hbox hg; obtain ⟨hcz4_0, hcz4_1, hcz4_2, hcz4_3, hcz4_4, hfz4_0, hfz4_1, hfz4_2, hfz4_3, hfz4_4⟩ := z5_ BK101.out)))
   go_ret
   exact ⟨by rfl, HB.out⟩
def bF.j0 : Nat → Bool → ByteArray → Int → Int → Int → ByteArray → Option (Bool)
 | 0, _, _, _, _, _, _ => none
 | k + 1, x42, x103000, x103001, x103002, x103003, x103004 => if x42 = true then (some false) else ((jJ.f x103000 x103001 x103002 x103003 x103004).bind fun t104 => (if t104 = true then ((iQ.f x103001 x103004).bind fun t105 => (some t105)) else (some true)))
def bF.f (k : Nat) (a0_0 : ByteArray) (a0_1 : Int) (a0_2 : Int) (a0_3 : Int) (a0_4 : ByteArray) : Option (Bool) := (dI.f a0_0).bind fun t103 => (if t103 = true then (if a0_1 < 0 then (bF.j0 k true a0_0 a0_1 a0_2 a0_3 a0_4) else (if a0_1 > 65535 then (bF.j0 k true a0_0 a0_1 a0_2 a0_3 a0_4) else (if a0_2 < 0 then (bF.j0 k true a0_0 a0_1 a0_2 a0_3 a0_4) else (if a0_2 > 65535 then (bF.j0 k true a0_0 a0_1 a0_2 a0_3 a0_4) else (if a0_3 < 0 then (bF.j0 k true a0_0 a0_1 a0_2 a0_3 a0_4) else (if a0_3 > 2147483647 then (bF.j0 k true a0_0 a0_1 a0_2 a0_3 a0_4) else (bF.j0 k (decide ((a0_4.size : Int) > 65535)) a0_0 a0_1 a0_2 a0_3 a0_4))))))) else (bF.j0 k true a0_0 a0_1 a0_2 a0_3 a0_4))
theorem bF.sU : ∀ k, (∀ y0 y1 y2 y3 y4 y5, LeO (bF.j0 k y0 y1 y2 y3 y4 y5) (bF.j0 (k + 1) y0 y1 y2 y3 y4 y5))
 | 0 => fun _ _ _ _ _ _ r h => by simp [bF.j0] at h
 | k + 1 => by
  have ih0 := bF.sU k
  ·intro y0 y1 y2 y3 y4 y5
   unfold bF.j0
   repeat' first
   | (with_reducible exact ih0 _ _ _ _ _ _)
   | (with_reducible exact LeO.refl _)
   | (with_reducible exact LeO.none _)
   | (with_reducible refine LeO.ite ?_ ?_)
   | (with_reducible refine LeO.bind ?_ (fun _ => ?_))
   | exact ih0 _ _ _ _ _ _
   | exact LeO.none _
   | refine LeO.ite ?_ ?_
   | refine LeO.bind ?_ (fun _ => ?_)
theorem bF.mono : ∀ a0 a1 a2 a3 a4 k, LeO (bF.f k a0 a1 a2 a3 a4) (bF.f (k + 1) a0 a1 a2 a3 a4) := by
 intro a0 a1 a2 a3 a4 k
 have ih0 := bF.sU k
 unfold bF.f
 repeat' first
   | (with_reducible exact ih0 _ _ _ _ _ _)
   | (with_reducible exact LeO.refl _)
   | (with_reducible exact LeO.none _)
   | (with_reducible refine LeO.ite ?_ ?_)
   | (with_reducible refine LeO.bind ?_ (fun _ => ?_))
   | exact ih0 _ _ _ _ _ _
   | exact LeO.none _
   | refine LeO.ite ?_ ?_
   | refine LeO.bind ?_ (fun _ => ?_)
theorem bF.calls (k : Nat) (a0_0 : ByteArray) (a0_1 : Int) (a0_2 : Int) (a0_3 : Int) (a0_4 : ByteArray) (r : Bool) (w : World) (h : bF.f k a0_0 a0_1 a0_2 a0_3 a0_4 = some r) :
    Calls Tryz.prog 50 #[.agg #[.string a0_0, .int .i64 a0_1, .int .i64 a0_2, .int .i64 a0_3, .string a0_4]] w fun e w' => e = .returned (.bool r) ∧ Below w.heap.size w w' := by
  have hu28 := Tryz.underlying28
  have HB := ah.mk (Below.refl w.heap.size w)
  have H : ((dI.f a0_0).bind fun t103 => (if t103 = true then (if a0_1 < 0 then (bF.j0 k true a0_0 a0_1 a0_2 a0_3 a0_4) else (if a0_1 > 65535 then (bF.j0 k true a0_0 a0_1 a0_2 a0_3 a0_4) else (if a0_2 < 0 then (bF.j0 k true a0_0 a0_1 a0_2 a0_3 a0_4) else (if a0_2 > 65535 then (bF.j0 k true a0_0 a0_1 a0_2 a0_3 a0_4) else (if a0_3 < 0 then (bF.j0 k true a0_0 a0_1 a0_2 a0_3 a0_4) else (if a0_3 > 2147483647 then (bF.j0 k true a0_0 a0_1 a0_2 a0_3 a0_4) else (bF.j0 k (decide ((a0_4.size : Int) > 65535)) a0_0 a0_1 a0_2 a0_3 a0_4))))))) else (bF.j0 k true a0_0 a0_1 a0_2 a0_3 a0_4))) = some r := h
  clear h
  have HC2 := ah.mk H
  clear H
  go_enter Tryz.func50, Tryz.ntmps50
  go_upto_region 1 with ((((with_reducible refine bY (N := 1) rfl ?_); (try (refine fJ (by rfl) ?_; dsimp only)); refine dx ?hg (N := 1) ?hd (cs := #[.string a0_0, .int .i64 a0_1, .int .i64 a0_2, .int .i64 a0_3, .string a0_4]) (t := 28) ?hr ?_; (case hd => rfl); (case hg => rfl); (case hr => (go_simp; done)); intro gb102 hg w3 hbox hb; have BK102 := ah.mk (hbox); have GW102 := ah.mk (ge_ hg (av HB.out)); have GE102 := ah.mk (ge_ hg (av HB.out)); replace HB := ah.mk (au HB.out hb); clear hb hbox hg)))
  go_cut [42] (fun v42 wc => ∃ (kq : Nat) (x42_1 : Bool), v42 = .bool x42_1 ∧ ah (bF.j0 kq x42_1 a0_0 a0_1 a0_2 a0_3 a0_4 = some r) ∧ ah (kq ≤ k) ∧ ah (wc.heap[gb102]? = some (.cells #[.string a0_0, .int .i64 a0_1, .int .i64 a0_2, .int .i64 a0_3, .string a0_4] 28 (0, 0))) ∧ ah (Below w.heap.size w wc))
  case first =>
   have H := HC2.out
   clear HC2
   obtain ⟨t103, A4, H⟩ := bZ H
   by_cases c5 : t103 = true
   focus
    subst c5
    rw [if_pos rfl] at H
    by_cases c6 : a0_1 < 0
    focus
     rw [if_pos c6] at H
     have c6b0 : decide (a0_1 < 0) = true := decide_eq_true c6
    rotate_left
    focus
     rw [if_neg c6] at H
     have c6b0 : decide (a0_1 < 0) = false := decide_eq_false c6
    rotate_left
    all_goals
     clear c6
     (skip)
    rotate_left
    focus
     by_cases c10 : a0_1 > 65535
     focus
      rw [if_pos c10] at H
      have c10b0 : decide (65535 < a0_1) = true := decide_eq_true c10
      clear c10
     rotate_left
     focus
      rw [if_neg c10] at H
      have c10b0 : decide (65535 < a0_1) = false := decide_eq_false c10
      clear c10
      by_cases c14 : a0_2 < 0
      focus
       rw [if_pos c14] at H
       have c14b0 : decide (a0_2 < 0) = true := decide_eq_true c14
       clear c14
      rotate_left
      focus
       rw [if_neg c14] at H
       have c14b0 : decide (a0_2 < 0) = false := decide_eq_false c14
       clear c14
       by_cases c18 : a0_2 > 65535
       focus
        rw [if_pos c18] at H
        have c18b0 : decide (65535 < a0_2) = true := decide_eq_true c18
        clear c18
       rotate_left
       focus
        rw [if_neg c18] at H
        have c18b0 : decide (65535 < a0_2) = false := decide_eq_false c18
        clear c18
        by_cases c22 : a0_3 < 0
        focus
         rw [if_pos c22] at H
         have c22b0 : decide (a0_3 < 0) = true := decide_eq_true c22
         clear c22
        rotate_left
        focus
         rw [if_neg c22] at H
         have c22b0 : decide (a0_3 < 0) = false := decide_eq_false c22
         clear c22
         by_cases c26 : a0_3 > 2147483647
         focus
          rw [if_pos c26] at H
          have c26b0 : decide (2147483647 < a0_3) = true := decide_eq_true c26
         rotate_left
         focus
          rw [if_neg c26] at H
          have c26b0 : decide (2147483647 < a0_3) = false := decide_eq_false c26
         rotate_left
         all_goals
          clear c26
        rotate_left 2
       rotate_left 3
      rotate_left 4
     rotate_left 5
    rotate_left 6
   rotate_left 7
   focus
    replace c5 := Bool.eq_false_iff.mpr c5
    subst c5
    rw [if_neg ff_] at H
   rotate_left
   all_goals
    have H' := ah.mk H
    clear H
    obtain ⟨hcz7_0, hcz7_1, hcz7_2, hcz7_3, hcz7_4, hfz7_0, hfz7_1, hfz7_2, hfz7_3, hfz7_4⟩ := z5_ BK102.out
   iterate 7
    focus
     go_wp2_with (((refine gl_ (some 5) Tryz.func47 #[.string a0_0] ?_; (with_reducible refine (dI.calls a0_0 _ _ A4.out).mono ?_); rintro e w8 ⟨rfl, hb⟩; refine ⟨_, rfl, ?_⟩; replace BK102 := ah.mk (aD (by ((exact BK102.out))) hb); replace HB := ah.mk (au HB.out hb); (try clear hb); obtain ⟨hcz9_0, hcz9_1, hcz9_2, hcz9_3, hcz9_4, hfz9_0, hfz9_1, hfz9_2, hfz9_3, hfz9_4⟩ := z5_ BK102.out)))
     go_meet
    rotate_left
   rotate_left
   ·case rel => exact ⟨_, (true), (by rfl), H', ⟨by omega⟩, ⟨by (with_reducible repeat ((refine ay ?_ _))); exact BK102.out⟩, ⟨HB.out⟩⟩
   ·case rel => exact ⟨_, (true), (by rfl), H', ⟨by omega⟩, ⟨by (with_reducible repeat ((refine ay ?_ _))); exact BK102.out⟩, ⟨HB.out⟩⟩
   ·case rel => exact ⟨_, (true), (by rfl), H', ⟨by omega⟩, ⟨by (with_reducible repeat ((refine ay ?_ _))); exact BK102.out⟩, ⟨HB.out⟩⟩
   ·case rel => exact ⟨_, (true), (by rfl), H', ⟨by omega⟩, ⟨by (with_reducible repeat ((refine ay ?_ _))); exact BK102.out⟩, ⟨HB.out⟩⟩
   ·case rel => exact ⟨_, (true), (by rfl), H', ⟨by omega⟩, ⟨by (with_reducible repeat ((refine ay ?_ _))); exact BK102.out⟩, ⟨HB.out⟩⟩
   ·case rel => exact ⟨_, (true), (by rfl), H', ⟨by omega⟩, ⟨by (with_reducible repeat ((refine ay ?_ _))); exact BK102.out⟩, ⟨HB.out⟩⟩
   ·case rel => exact ⟨_, (decide ((a0_4.size : Int) > 65535)), (by rfl), H', ⟨by omega⟩, ⟨by (with_reducible repeat ((refine ay ?_ _))); exact BK102.out⟩, ⟨HB.out⟩⟩
   ·go_wp2_with (((refine gl_ (some 5) Tryz.func47 #[.string a0_0] ?_; (with_reducible refine (dI.calls a0_0 _ _ A4.out).mono ?_); rintro e w34 ⟨rfl, hb⟩; refine ⟨_, rfl, ?_⟩; replace BK102 := ah.mk (aD (by ((exact BK102.out))) hb); replace HB := ah.mk (au HB.out hb); (try clear hb))))
    go_meet
    case rel => exact ⟨_, (true), (by rfl), H', ⟨by omega⟩, ⟨by (with_reducible repeat ((refine ay ?_ _))); exact BK102.out⟩, ⟨HB.out⟩⟩
  case rest =>
   clear HC2
   obtain ⟨kq, x42_1, rfl, HA, HJ1, BK102, HB⟩ := hcut
   cases kq with
   | zero => exact absurd HA.out (by simp [bF.j0])
   | succ kj1 =>
    have H := HA.out
    clear HA
    simp only [bF.j0] at H
    by_cases c35 : x42_1 = true
    focus
     subst c35
     rw [if_pos rfl] at H
     obtain rfl := Option.some.inj H
     go_wp2
    rotate_left
    focus
     replace c35 := Bool.eq_false_iff.mpr c35
     subst c35
     rw [if_neg ff_] at H
     obtain ⟨t104, A36, H⟩ := bZ H
     by_cases c37 : t104 = true
     focus
      subst c37
      rw [if_pos rfl] at H
      obtain ⟨t105, A38, H⟩ := bZ H
     rotate_left
     focus
      replace c37 := Bool.eq_false_iff.mpr c37
      subst c37
      rw [if_neg ff_] at H
     rotate_left
     all_goals
      obtain rfl := Option.some.inj H
      obtain ⟨hcz39_0, hcz39_1, hcz39_2, hcz39_3, hcz39_4, hfz39_0, hfz39_1, hfz39_2, hfz39_3, hfz39_4⟩ := z5_ BK102.out
     focus
      go_wp2_with (first | (refine gl_ (some 44) Tryz.func85 #[.agg #[.string a0_0, .int .i64 a0_1, .int .i64 a0_2, .int .i64 a0_3, .string a0_4]] ?_; (with_reducible refine (jJ.calls a0_0 a0_1 a0_2 a0_3 a0_4 _ _ A36.out).mono ?_); rintro e w40 ⟨rfl, hb⟩; refine ⟨_, rfl, ?_⟩; replace BK102 := ah.mk (aD (by ((exact BK102.out))) hb); replace HB := ah.mk (au HB.out hb); (try clear hb); obtain ⟨hcz41_0, hcz41_1, hcz41_2, hcz41_3, hcz41_4, hfz41_0, hfz41_1, hfz41_2, hfz41_3, hfz41_4⟩ := z5_ BK102.out) | (go_at_call 86; (with_reducible refine (iQ.calls a0_1 a0_4 t105 _ A38.out).mono ?_); rintro e w42 ⟨rfl, hb⟩; replace BK102 := ah.mk (aD (by ((exact BK102.out))) hb); replace HB := ah.mk (au HB.out hb); (try clear hb)))
     rotate_left
     focus
      go_wp2_with (((refine gl_ (some 44) Tryz.func85 #[.agg #[.string a0_0, .int .i64 a0_1, .int .i64 a0_2, .int .i64 a0_3, .string a0_4]] ?_; (with_reducible refine (jJ.calls a0_0 a0_1 a0_2 a0_3 a0_4 _ _ A36.out).mono ?_); rintro e w44 ⟨rfl, hb⟩; refine ⟨_, rfl, ?_⟩; replace BK102 := ah.mk (aD (by ((exact BK102.out))) hb); replace HB := ah.mk (au HB.out hb); (try clear hb))))
     rotate_left
    rotate_left 2
    all_goals
     go_ret
     exact ⟨by rfl, HB.out⟩
def gP.l0 : Nat → Int → List Int → Int → Int → Option (Int)
 | 0, _, _, _, _ => none
 | k + 1, x3, x6, x7, x8 => if x8 < x7 then (if 0 ≤ x8 then (if x8 < (x6.length : Int) then (if (rd x6 x8) = x3 then (gP.l0 k x3 x6 x7 (wrap64 (x8 + 1))) else (some (rd x6 x8))) else (none)) else (none)) else (some x3)
def gP.f (k : Nat) (l0 : List Int) : Option (Int) := gP.l0 k 0 l0 (l0.length : Int) 0
theorem gP.calls (k : Nat) (A0 : Option Addr) (c0 : Nat) (l0 : List Int) (r : Int) (w : World) (hr0 : Kd.C (Kd.int .i64) w A0 l0.length l0) (hc0 : l0.length ≤ c0) (h : gP.f k l0 = some r) :
    Calls Tryz.prog 72 #[.slice A0 l0.length c0] w fun e w' => e = .returned (.int .i64 r) ∧ aY w w' := by
  have HR0 := ah.mk hr0
  have HC0 := ah.mk hc0
  clear hr0 hc0
  have H : (gP.l0 k 0 l0 (l0.length : Int) 0) = some r := h
  clear h
  have H' := ah.mk H
  clear H
  go_enter Tryz.func72, Tryz.ntmps72
  go_wp2
  go_loopg [8] k (fun kq v8 w' => ∃ (x8_1 : Int), v8 = .int .i64 x8_1 ∧ ah (gP.l0 kq 0 l0 (l0.length : Int) x8_1 = some r) ∧ ah (kq ≤ k) ∧ aY w w')
  case atStart => exact ⟨(0), (by rfl), H', ⟨Nat.le_refl _⟩, by repeat ((exact aY.refl _))⟩
  case round =>
   clear H'
   obtain ⟨x8_1, rfl, HA, HK1, ⟨m1, rfl⟩⟩ := hrel
   cases gk with
   | zero => exact absurd HA.out (by simp [gP.l0])
   | succ k1 =>
    have H := HA.out
    clear HA
    simp only [gP.l0] at H
    by_cases c2 : x8_1 < (l0.length : Int)
    ·rw [if_pos c2] at H
     have c2b0 : decide (x8_1 < (l0.length : Int)) = true := decide_eq_true c2
     clear c2
     obtain ⟨c3b0, H⟩ := eU H
     obtain ⟨c4b0, H⟩ := eU H
     by_cases c5 : (rd l0 x8_1) = 0
     focus
      rw [if_pos c5] at H
      have c5b0 : ((rd l0 x8_1) == 0) = true := beq_iff_eq.mpr c5
      have c5b1 : ((rd l0 x8_1) != 0) = false := bne_eq_false_iff_eq.mpr c5
      clear c5
      have H' := ah.mk H
      clear H
     rotate_left
     focus
      rw [if_neg c5] at H
      have c5b0 : ((rd l0 x8_1) == 0) = false := beq_eq_false_iff_ne.mpr c5
      have c5b1 : ((rd l0 x8_1) != 0) = true := bne_iff_ne.mpr c5
      obtain rfl := Option.some.inj H
     rotate_left
     all_goals
      have p106 : 0 ≤ (x8_1 : Int) := of_decide_eq_true (by assumption)
      have q106 : x8_1 < (l0.length : Int) := of_decide_eq_true (by assumption)
      obtain ⟨ad106, e106, hx106_0⟩ := Kd.pO HR0.out x8_1 p106 q106
      cases e106
      replace p106 := eq_true p106
      replace q106 := eq_true q106
      go_wp2
     ·go_roundg k1
      case measure => have := HK1.out; omega
      case rel => exact ⟨(wrap64 (x8_1 + 1)), (by rfl), H', ⟨by have := HK1.out; omega⟩, by repeat (first | exact aY.refl _ | apply aY.step)⟩
     ·go_ret
      exact ⟨by rfl, by repeat (first | exact aY.refl _ | apply aY.step)⟩
    ·rw [if_neg c2] at H
     have c2b0 : decide (x8_1 < (l0.length : Int)) = false := decide_eq_false c2
     clear c2
     obtain rfl := Option.some.inj H
     go_wp2
     go_ret
     exact ⟨by rfl, by repeat (first | exact aY.refl _ | apply aY.step)⟩
def cmp_isNaN_int.f (a0 : Int) : Option (Bool) := some (a0 != a0)
theorem cmp_isNaN_int.calls (a0 : Int) (r : Bool) (w : World) (h : cmp_isNaN_int.f a0 = some r) :
  Calls Tryz.prog 109 #[.int .i64 a0] w fun e w' => e = .returned (.bool r) ∧ aY w w' := by
 have H : (some (a0 != a0)) = some r := h
 clear h
 obtain rfl := Option.some.inj H
 go_enter Tryz.func109, Tryz.ntmps109
 go_wp2
 go_ret
 exact ⟨by rfl, by repeat ((exact aY.refl _))⟩
def cmp_Compare_int.f (a0 : Int) (a1 : Int) : Option (Int) := (cmp_isNaN_int.f a0).bind fun t107 => ((cmp_isNaN_int.f a1).bind fun t108 => (if t107 = true then (if t108 = true then (some 0) else (some (-1))) else (if t108 = true then (some 1) else (if a0 < a1 then (some (-1)) else (if a0 > a1 then (some 1) else (some 0))))))
theorem cmp_Compare_int.calls (a0 : Int) (a1 : Int) (r : Int) (w : World) (h : cmp_Compare_int.f a0 a1 = some r) :
    Calls Tryz.prog 73 #[.int .i64 a0, .int .i64 a1] w fun e w' => e = .returned (.int .i64 r) ∧ aY w w' := by
  have H : ((cmp_isNaN_int.f a0).bind fun t107 => ((cmp_isNaN_int.f a1).bind fun t108 => (if t107 = true then (if t108 = true then (some 0) else (some (-1))) else (if t108 = true then (some 1) else (if a0 < a1 then (some (-1)) else (if a0 > a1 then (some 1) else (some 0))))))) = some r := h
  clear h
  obtain ⟨t107, A3, H⟩ := bZ H
  obtain ⟨t108, A4, H⟩ := bZ H
  by_cases c5 : t107 = true
  focus
   subst c5
   rw [if_pos rfl] at H
   by_cases c6 : t108 = true
   focus
    subst c6
    rw [if_pos rfl] at H
   rotate_left
   focus
    replace c6 := Bool.eq_false_iff.mpr c6
    subst c6
    rw [if_neg ff_] at H
   rotate_left
  rotate_left 2
  focus
   replace c5 := Bool.eq_false_iff.mpr c5
   subst c5
   rw [if_neg ff_] at H
   by_cases c7 : t108 = true
   focus
    subst c7
    rw [if_pos rfl] at H
   rotate_left
   focus
    replace c7 := Bool.eq_false_iff.mpr c7
    subst c7
    rw [if_neg ff_] at H
    by_cases c8 : a0 < a1
    focus
     rw [if_pos c8] at H
     have c8b0 : decide (a0 < a1) = true := decide_eq_true c8
     clear c8
    rotate_left
    focus
     rw [if_neg c8] at H
     have c8b0 : decide (a0 < a1) = false := decide_eq_false c8
     clear c8
     by_cases c9 : a0 > a1
     focus
      rw [if_pos c9] at H
      have c9b0 : decide (a1 < a0) = true := decide_eq_true c9
     rotate_left
     focus
      rw [if_neg c9] at H
      have c9b0 : decide (a1 < a0) = false := decide_eq_false c9
     rotate_left
     all_goals
      clear c9
    rotate_left 2
   rotate_left 3
  rotate_left 4
  all_goals
   obtain rfl := Option.some.inj H
   go_enter Tryz.func73, Tryz.ntmps73
   go_wp2_with (first | (refine gl_ (some 8) Tryz.func109 #[.int .i64 a0] ?_; (with_reducible refine (cmp_isNaN_int.calls a0 _ _ A3.out).mono ?_); rintro e w' ⟨rfl, ⟨nd, rfl⟩⟩; refine ⟨_, rfl, ?_⟩) | (refine gl_ (some 10) Tryz.func109 #[.int .i64 a1] ?_; (with_reducible refine (cmp_isNaN_int.calls a1 _ _ A4.out).mono ?_); rintro e w' ⟨rfl, ⟨nd, rfl⟩⟩; refine ⟨_, rfl, ?_⟩))
   go_ret
   exact ⟨by rfl, by repeat (first | exact aY.refl _ | apply aY.step)⟩
def jh.f (a0_0 : ByteArray) (a0_1 : Int) (a0_2 : Int) (a0_3 : Int) (a0_4 : ByteArray) : Option (ByteArray) := (iQ.f a0_1 a0_4).bind fun t110 => (if t110 = true then ((kR.f a0_1 a0_4).bind fun t111 => (some t111)) else (some a0_4))
theorem jh.calls (a0_0 : ByteArray) (a0_1 : Int) (a0_2 : Int) (a0_3 : Int) (a0_4 : ByteArray) (r : ByteArray) (w : World) (h : jh.f a0_0 a0_1 a0_2 a0_3 a0_4 = some r) :
    Calls Tryz.prog 75 #[.agg #[.string a0_0, .int .i64 a0_1, .int .i64 a0_2, .int .i64 a0_3, .string a0_4]] w fun e w' => e = .returned (.string r) ∧ Below w.heap.size w w' := by
  have hu28 := Tryz.underlying28
  have HB := ah.mk (Below.refl w.heap.size w)
  have H : ((iQ.f a0_1 a0_4).bind fun t110 => (if t110 = true then ((kR.f a0_1 a0_4).bind fun t111 => (some t111)) else (some a0_4))) = some r := h
  clear h
  obtain ⟨t110, A2, H⟩ := bZ H
  by_cases c3 : t110 = true
  focus
   subst c3
   rw [if_pos rfl] at H
   obtain ⟨t111, A4, H⟩ := bZ H
  rotate_left
  focus
   replace c3 := Bool.eq_false_iff.mpr c3
   subst c3
   rw [if_neg ff_] at H
  rotate_left
  all_goals
   obtain rfl := Option.some.inj H
   go_enter Tryz.func75, Tryz.ntmps75
  focus
   go_wp2_with (first | ((with_reducible refine bY (N := 1) rfl ?_); refine dx ?hg (N := 1) ?hd (cs := #[.string a0_0, .int .i64 a0_1, .int .i64 a0_2, .int .i64 a0_3, .string a0_4]) (t := 28) ?hr ?_; (case hd => rfl); (case hg => rfl); (case hr => (go_simp; done)); intro gb109 hg w5 hbox hb; have BK109 := ah.mk (hbox); have GW109 := ah.mk (ge_ hg (av HB.out)); have GE109 := ah.mk (ge_ hg (av HB.out)); replace HB := ah.mk (au HB.out hb); clear hb hbox hg; obtain ⟨hcz6_0, hcz6_1, hcz6_2, hcz6_3, hcz6_4, hfz6_0, hfz6_1, hfz6_2, hfz6_3, hfz6_4⟩ := z5_ BK109.out) | (refine gl_ (some 7) Tryz.func86 #[.int .i64 a0_1, .string a0_4] ?_; (with_reducible refine (iQ.calls a0_1 a0_4 _ _ A2.out).mono ?_); rintro e w7 ⟨rfl, hb⟩; refine ⟨_, rfl, ?_⟩; replace BK109 := ah.mk (aD (by ((exact BK109.out))) hb); replace HB := ah.mk (au HB.out hb); (try clear hb); obtain ⟨hcz8_0, hcz8_1, hcz8_2, hcz8_3, hcz8_4, hfz8_0, hfz8_1, hfz8_2, hfz8_3, hfz8_4⟩ := z5_ BK109.out) | (refine gl_ (some 15) Tryz.func111 #[.int .i64 a0_1, .string a0_4] ?_; (with_reducible refine (kR.calls a0_1 a0_4 t111 _ A4.out).mono ?_); rintro e w9 ⟨rfl, hb⟩; refine ⟨_, rfl, ?_⟩; replace BK109 := ah.mk (aD (by ((exact BK109.out))) hb); replace HB := ah.mk (au HB.out hb); (try clear hb)))
  rotate_left
  focus
   go_wp2_with (first | ((with_reducible refine bY (N := 1) rfl ?_); refine dx ?hg (N := 1) ?hd (cs := #[.string a0_0, .int .i64 a0_1, .int .i64 a0_2, .int .i64 a0_3, .string a0_4]) (t := 28) ?hr ?_; (case hd => rfl); (case hg => rfl); (case hr => (go_simp; done)); intro gb109 hg w10 hbox hb; have BK109 := ah.mk (hbox); have GW109 := ah.mk (ge_ hg (av HB.out)); have GE109 := ah.mk (ge_ hg (av HB.out)); replace HB := ah.mk (au HB.out hb); clear hb hbox hg; obtain ⟨hcz11_0, hcz11_1, hcz11_2, hcz11_3, hcz11_4, hfz11_0, hfz11_1, hfz11_2, hfz11_3, hfz11_4⟩ := z5_ BK109.out) | (refine gl_ (some 7) Tryz.func86 #[.int .i64 a0_1, .string a0_4] ?_; (with_reducible refine (iQ.calls a0_1 a0_4 _ _ A2.out).mono ?_); rintro e w12 ⟨rfl, hb⟩; refine ⟨_, rfl, ?_⟩; replace BK109 := ah.mk (aD (by ((exact BK109.out))) hb); replace HB := ah.mk (au HB.out hb); (try clear hb); obtain ⟨hcz13_0, hcz13_1, hcz13_2, hcz13_3, hcz13_4, hfz13_0, hfz13_1, hfz13_2, hfz13_3, hfz13_4⟩ := z5_ BK109.out))
  rotate_left
  all_goals
   go_ret
   exact ⟨by rfl, HB.out⟩
end Go.Y.PRr
namespace Go.Y.PRr
open Go.Proofs.aj.aC Go.Proofs.aj.aT Go.Proofs.aj.aV Go.Y.Given Go.Y.PRd
attribute [local go_sem] dK dN dY dX dB dA dL dM
def eO.f (k : Nat) (a0_0 : ByteArray) (a0_1 : Int) (a0_2 : Int) (a0_3 : Int) (a0_4 : ByteArray) (a1_0 : ByteArray) (a1_1 : Int) (a1_2 : Int) (a1_3 : Int) (a1_4 : ByteArray) : Option (Int) := (eG.f k a0_0 a1_0).bind fun t114 => ((cmp_Compare_int.f a0_1 a1_1).bind fun t115 => ((cmp_Compare_int.f a0_2 a1_2).bind fun t116 => ((jh.f a0_0 a0_1 a0_2 a0_3 a0_4).bind fun t117 => ((jh.f a1_0 a1_1 a1_2 a1_3 a1_4).bind fun t118 => ((ig.f t117 t118).bind fun t119 => ((gP.f k (([t114, t115, t116, t119] : List Int))).bind fun t123 => (some t123)))))))
def eO.T1 : Bool × List (List Nat × List Nat) := (true, [([], []), ([0], [0]), ([], []), ([2], [2]), ([1, 3], [1, 3]), ([], []), ([5], [5]), ([], []), ([7], [7]), ([6, 8, 4], [6, 8]), ([], []), ([10], [10]), ([], []), ([12], [12]), ([11, 13, 9], [11, 13]), ([], []), ([15, 14], [15]), ([], []), ([17, 16], [17]), ([16, 18, 18], [16, 18]), ([4, 9, 14, 19], [4, 9, 14, 19]), ([20, 19], [20]), ([21, 21, 0, 1, 2, 3, 4, 5, 6, 7, 8, 9, 10, 11, 12, 13, 14, 15, 16, 17, 18, 19, 20, 21], [21])])
def eO.B1 : List Nat := [0, 1, 0, 4, 15, 0, 32, 0, 128, 511, 0, 1024, 0, 4096, 16383, 0, 65535, 0, 262143, 524287, 1048575, 2097151, 4194303]
theorem eO.Lj : iH .any (opsOf Tryz.f34 1) = eO.T1 := by kernel_rfl
theorem eO.Jm : jD eO.T1.2 eO.B1 = true := by kernel_rfl
theorem eO.calls (k : Nat) (a0_0 : ByteArray) (a0_1 : Int) (a0_2 : Int) (a0_3 : Int) (a0_4 : ByteArray) (a1_0 : ByteArray) (a1_1 : Int) (a1_2 : Int) (a1_3 : Int) (a1_4 : ByteArray) (r : Int) (w : World) (h : eO.f k a0_0 a0_1 a0_2 a0_3 a0_4 a1_0 a1_1 a1_2 a1_3 a1_4 = some r) :
  Calls Tryz.prog 34 #[.agg #[.string a0_0, .int .i64 a0_1, .int .i64 a0_2, .int .i64 a0_3, .string a0_4], .agg #[.string a1_0, .int .i64 a1_1, .int .i64 a1_2, .int .i64 a1_3, .string a1_4]] w fun e w' => e = .returned (.int .i64 r) ∧ Below w.heap.size w w' := by
 have hu28 := Tryz.underlying28
 have HB := ah.mk (Below.refl w.heap.size w)
 have H : ((eG.f k a0_0 a1_0).bind fun t114 => ((cmp_Compare_int.f a0_1 a1_1).bind fun t115 => ((cmp_Compare_int.f a0_2 a1_2).bind fun t116 => ((jh.f a0_0 a0_1 a0_2 a0_3 a0_4).bind fun t117 => ((jh.f a1_0 a1_1 a1_2 a1_3 a1_4).bind fun t118 => ((ig.f t117 t118).bind fun t119 => ((gP.f k (([t114, t115, t116, t119] : List Int))).bind fun t123 => (some t123)))))))) = some r := h
 clear h
 obtain ⟨t114, A3, H⟩ := bZ H
 obtain ⟨t115, A4, H⟩ := bZ H
 obtain ⟨t116, A5, H⟩ := bZ H
 obtain ⟨t117, A6, H⟩ := bZ H
 obtain ⟨t118, A7, H⟩ := bZ H
 obtain ⟨t119, A8, H⟩ := bZ H
 obtain ⟨y120, hy120⟩ : ∃ y_ : List Int, y_ = (([t114, t115, t116, t119] : List Int)) := ⟨_, rfl⟩
 replace H : ((gP.f k y120).bind fun t123 => (some t123)) = some r := by (rw [hy120]; with_reducible exact H)
 have Ny120 := ah.mk hy120
 clear hy120
 obtain ⟨t123, A9, H⟩ := bZ H
 obtain rfl := Option.some.inj H
 go_enter Tryz.func34, Tryz.ntmps34
 (try go_wp2_with (first | ((with_reducible refine bY (N := 2) rfl ?_); refine dx ?hg (N := 2) ?hd (cs := #[.string a0_0, .int .i64 a0_1, .int .i64 a0_2, .int .i64 a0_3, .string a0_4]) (t := 28) ?hr ?_; (case hd => rfl); (case hg => rfl); (case hr => (go_simp; done)); intro gb112 hg w10 hbox hb; have BK112 := ah.mk (hbox); have GW112 := ah.mk (ge_ hg (av HB.out)); have GE112 := ah.mk (ge_ hg (av HB.out)); replace HB := ah.mk (au HB.out hb); clear hb hbox hg) | ((with_reducible refine bY (N := 3) rfl ?_); refine dx ?hg (N := 3) ?hd (cs := #[.string a1_0, .int .i64 a1_1, .int .i64 a1_2, .int .i64 a1_3, .string a1_4]) (t := 28) ?hr ?_; (case hd => rfl); (case hg => rfl); (case hr => (go_simp; done)); intro gb113 hg w11 hbox hb; have BK113 := ah.mk (hbox); have GW113 := ah.mk (ge_ hg (av HB.out)); have GE113 := ah.mk (ge_ hg (av HB.out)); have NB112_113 := ah.mk (nl_ hg (by ((exact BK112.out)))); have NB113_112 := ah.mk (nr_ hg (by ((exact BK112.out)))); replace BK112 := ah.mk (aD (by ((exact BK112.out))) hb); replace HB := ah.mk (au HB.out hb); clear hb hbox hg)))
 replace BK112 := ah.mk (fu BK112.out)
 replace BK113 := ah.mk (fu BK113.out)
 replace HB := ah.mk (bW HB.out)
 refine jd (n := 23) (ds := []) (ls 23 0) (by kernel_rfl) rfl rfl (c5_ BK112.out (d5_ BK113.out)) (fun hHeld => ?_); refine iL eO.Lj eO.Jm (fun HT_ HW_ => ?_)
 generalize w11.drew = w12 at BK112 BK113 HB hHeld ⊢
 refine td_ [(0, 5), (2, 7), (5, 10), (7, 12), (10, 15), (12, 17)] ?_
 iterate 6 (refine pm_ HT_ ?_)
 refine dn_ ?_
 refine td_ [(1, 6), (3, 8), (6, 11), (8, 13), (11, 16), (13, 18), (15, 20), (17, 22)] ?_
 iterate 8 (refine tm_ HT_ HW_ hHeld ?_)
 refine dn_ ?_
 refine jN HT_ (i := 4) (N := some 9) (ls 23 179711) (fun K hK => ?_)
 refine gs_ Tryz.func64 #[.string a0_0, .string a1_0] ?_
 with_reducible refine (eG.calls k a0_0 a1_0 t114 _ A3.out).mono ?_
 rintro e w13 ⟨rfl, hb⟩
 refine ⟨_, rfl, ?_⟩
 replace BK112 := ah.mk (aD (by ((exact BK112.out))) hb)
 replace BK113 := ah.mk (aD (by ((exact BK113.out))) hb)
 replace HB := ah.mk (au HB.out hb)
 (try clear hb)
 refine hK.out _ _ (c5_ BK112.out (d5_ BK113.out)) (fun hHeld => ?_)
 clear hK K
 refine nm_ (N := (some 9)) ?_
 refine jN HT_ (i := 9) (N := some 14) (ls 23 180223) (fun K hK => ?_)
 refine gs_ Tryz.func73 #[.int .i64 a0_1, .int .i64 a1_1] ?_
 with_reducible refine (cmp_Compare_int.calls a0_1 a1_1 t115 _ A4.out).mono ?_
 rintro e w' ⟨rfl, ⟨nd, rfl⟩⟩
 refine ⟨_, rfl, ?_⟩
 refine hK.out _ _ (c5_ BK112.out (d5_ BK113.out)) (fun hHeld => ?_)
 clear hK K
 refine nm_ (N := (some 14)) ?_
 refine jN HT_ (i := 14) (N := some 19) (ls 23 196607) (fun K hK => ?_)
 refine gs_ Tryz.func73 #[.int .i64 a0_2, .int .i64 a1_2] ?_
 with_reducible refine (cmp_Compare_int.calls a0_2 a1_2 t116 _ A5.out).mono ?_
 rintro e w' ⟨rfl, ⟨nd, rfl⟩⟩
 refine ⟨_, rfl, ?_⟩
 refine hK.out _ _ (c5_ BK112.out (d5_ BK113.out)) (fun hHeld => ?_)
 clear hK K
 refine nm_ (N := (some 19)) ?_
 refine jN HT_ (i := 16) (N := some 21) (ls 23 262143) (fun K hK => ?_)
 refine gs_ Tryz.func75 #[.agg #[.string a0_0, .int .i64 a0_1, .int .i64 a0_2, .int .i64 a0_3, .string a0_4]] ?_
 with_reducible refine (jh.calls a0_0 a0_1 a0_2 a0_3 a0_4 t117 _ A6.out).mono ?_
 rintro e w14 ⟨rfl, hb⟩
 refine ⟨_, rfl, ?_⟩
 replace BK112 := ah.mk (aD (by ((exact BK112.out))) hb)
 replace BK113 := ah.mk (aD (by ((exact BK113.out))) hb)
 replace HB := ah.mk (au (by repeat ((with_reducible first | exact HB.out | apply aR))) hb)
 (try clear hb)
 refine hK.out _ _ (c5_ BK112.out (d5_ BK113.out)) (fun hHeld => ?_)
 clear hK K
 refine nm_ (N := (some 21)) ?_
 refine jN HT_ (i := 18) (N := some 23) (ls 23 524287) (fun K hK => ?_)
 refine gs_ Tryz.func75 #[.agg #[.string a1_0, .int .i64 a1_1, .int .i64 a1_2, .int .i64 a1_3, .string a1_4]] ?_
 with_reducible refine (jh.calls a1_0 a1_1 a1_2 a1_3 a1_4 t118 _ A7.out).mono ?_
 rintro e w15 ⟨rfl, hb⟩
 refine ⟨_, rfl, ?_⟩
 replace BK112 := ah.mk (aD (by ((exact BK112.out))) hb)
 replace BK113 := ah.mk (aD (by ((exact BK113.out))) hb)
 replace HB := ah.mk (au HB.out hb)
 (try clear hb)
 refine hK.out _ _ (c5_ BK112.out (d5_ BK113.out)) (fun hHeld => ?_)
 clear hK K
 refine nm_ (N := (some 23)) ?_
 refine jN HT_ (i := 19) (N := some 24) (ls 23 1048575) (fun K hK => ?_)
 refine gs_ Tryz.func74 #[.string t117, .string t118] ?_
 with_reducible refine (ig.calls t117 t118 t119 _ A8.out).mono ?_
 rintro e w16 ⟨rfl, hb⟩
 refine ⟨_, rfl, ?_⟩
 replace BK112 := ah.mk (aD (by ((exact BK112.out))) hb)
 replace BK113 := ah.mk (aD (by ((exact BK113.out))) hb)
 replace HB := ah.mk (au HB.out hb)
 (try clear hb)
 refine hK.out _ _ (c5_ BK112.out (d5_ BK113.out)) (fun hHeld => ?_)
 clear hK K
 refine nm_ (N := (some 24)) ?_
 refine jN HT_ (i := 20) (N := some 25) (ls 23 2097151) (fun K hK => ?_)
 refine Kd.qX (Kd.int .i64) _ 3 ?hg (N := 25) ?hd (xs := ([t114, t115, t116, t119] : List Int)) (inner := [.int .i64 t114, .int .i64 t115, .int .i64 t116, .int .i64 t119]) (ok := fun _ => True) (okp := fun _ => True) ?hr ?hp (fun _ hk => hk) trivial (Below.refl _ _) (Nat.le_refl _) (by simp) ?_; (case hd => rfl); (case hg => rfl); (case hr => (go_simp; done)); (case hp => exact (bO.one (show Kd.M (Kd.int .i64) _ _ _ t114 [.int .i64 t114] from rfl) (bO.one (show Kd.M (Kd.int .i64) _ _ _ t115 [.int .i64 t115] from rfl) (bO.one (show Kd.M (Kd.int .i64) _ _ _ t116 [.int .i64 t116] from rfl) (bO.one (show Kd.M (Kd.int .i64) _ _ _ t119 [.int .i64 t119] from rfl) (bO.none _ _))))))
 intro v121 w17 ho18 hb hg_ hnew_
 clear hg_ hnew_
 ((rw [← Ny120.out] at ho18))
 have HO122 := ah.mk (Kd.bV ho18 (av HB.out))
 replace BK112 := ah.mk (aD (by ((exact BK112.out))) hb)
 replace BK113 := ah.mk (aD (by ((exact BK113.out))) hb)
 replace HB := ah.mk (au HB.out hb)
 clear hb ho18
 obtain ⟨Ao19, co19, eo19⟩ := Kd.dn HO122.out
 ((subst eo19))
 refine hK.out _ _ (c5_ BK112.out (d5_ BK113.out)) (fun hHeld => ?_)
 clear hK K
 refine nm_ (N := (some 25)) ?_
 refine jN HT_ (i := 21) (N := some 26) (ls 23 4194303) (fun K hK => ?_)
 refine gs_ Tryz.func72 #[.slice Ao19 y120.length co19] ?_
 with_reducible refine (gP.calls k _ _ y120 t123 _ ?side1 ?side2 A9.out).mono ?_
 (case side1 => exact (Kd.aZ HO122.out).2.2)
 (case side2 => exact (Kd.aZ HO122.out).2.1)
 rintro e w' ⟨rfl, ⟨nd, rfl⟩⟩
 refine ⟨_, rfl, ?_⟩
 refine hK.out _ _ (c5_ BK112.out (d5_ BK113.out)) (fun hHeld => ?_)
 clear hK K
 refine nm_ (N := (some 26)) ?_
 refine td_ [(22, 4)] ?_
 refine pm_ HT_ ?_
 refine dn_ ?_
 refine lC (mU HT_.out (by kernel_rfl)) ?_
 (try go_wp2)
 go_ret
 exact ⟨by rfl, by repeat ((with_reducible first | exact HB.out | apply aR))⟩
end Go.Y.PRr
namespace Go.Y.Rrs
open Go.Proofs.aj.aC Go.Proofs.aj.aT Go.Proofs.aj.aV Go.Y.Given Go.Y.PRd Go.Y.PRr
abbrev RR := S28
abbrev kRR : Kd RR := k28
abbrev rdR (l : List RR) (i : Int) : RR := ak l i
abbrev RR.v (x : RR) : Value := .agg #[.string x.f0, .int .i64 x.f1, .int .i64 x.f2, .int .i64 x.f3, .string x.f4]
def Ij (k : Nat) (y x : RR) : Option Int := eO.f k y.f0 y.f1 y.f2 y.f3 y.f4 x.f0 x.f1 x.f2 x.f3 x.f4
theorem FN (k : Nat) (y x : RR) (c : Int) (w : World) (h : Ij k y x = some c) :
  Calls Tryz.prog 34 #[y.v, x.v] w fun e w' => e = .returned (.int .i64 c) ∧ Below w.heap.size w w' := eO.calls k _ _ _ _ _ _ _ _ _ _ c w h
theorem fB (l : List RR) (i : Nat) (hi : i < l.length) : rdR l (i : Nat) = l[i] := by
 show ak l (i : Nat) = _
 unfold ak
 rw [Int.toNat_natCast, List.getD_eq_getElem?_getD, List.getElem?_eq_getElem hi]; rfl
def eqR (x y : RR) : Bool := x.f0.toList == y.f0.toList && (x.f1 == y.f1 && (x.f2 == y.f2 && (x.f3 == y.f3 && (x.f4.toList == y.f4.toList))))
end Go.Y.Rrs
namespace Go.Y.Rrs
open Go.Proofs.aj.aC Go.Proofs.aj.aT Go.Proofs.aj.aV Go.Y.Given Go.Y.PRd Go.Y.PRr Go.Y.Oct Go.Y.Name Go.Y.Cmp Go.Y.fq Go.Y.eD Go.Y.dJ
def or4 (a b c d : Int) : Int := if a = 0 then if b = 0 then if c = 0 then d else c else b else a
theorem LZ (a b c d : Int) (k : Nat) (hk : 5 ≤ k) : gP.f k [a, b, c, d] = some (or4 a b c d) := by
 obtain ⟨k, rfl⟩ : ∃ m, k = m + 5 := ⟨k - 5, by omega⟩
 have w1 : wrap64 (0 + 1) = 1 := by unfold wrap64; omega
 have w2 : wrap64 (1 + 1) = 2 := by unfold wrap64; omega
 have w3 : wrap64 (2 + 1) = 3 := by unfold wrap64; omega
 have w4 : wrap64 (3 + 1) = 4 := by unfold wrap64; omega
 have r0 : rd [a, b, c, d] 0 = a := rfl
 have r1 : rd [a, b, c, d] 1 = b := rfl
 have r2 : rd [a, b, c, d] 2 = c := rfl
 have r3 : rd [a, b, c, d] 3 = d := rfl
 have l4 : (([a, b, c, d] : List Int).length : Int) = 4 := rfl
 show gP.l0 (k + 5) 0 [a, b, c, d] (([a, b, c, d] : List Int).length : Int) 0 = _
 rw [l4]
 unfold or4
 simp only [gP.l0, l4, r0, r1, r2, r3, w1, w2, w3, w4, show ((0 : Int) < 4) = True by simp, show ((1 : Int) < 4) = True by simp, show ((2 : Int) < 4) = True by simp, show ((3 : Int) < 4) = True by simp, show ((4 : Int) < 4) = False by simp, show ((0 : Int) ≤ 0) = True by simp, show ((0 : Int) ≤ 1) = True by simp, show ((0 : Int) ≤ 2) = True by simp, show ((0 : Int) ≤ 3) = True by simp, if_true, if_false]
 repeat' split
 all_goals first | rfl | (simp_all; done)
theorem Gr (a b : Int) : cmp_Compare_int.f a b = some (ny a b) := by
 unfold cmp_Compare_int.f cmp_isNaN_int.f ny
 simp only [bne_self_eq_false, Option.bind_some]
 repeat' split
 all_goals first | rfl | (simp_all; done)
open Classical in
noncomputable def iZ (x : RR) : List ByteArray := if h : ∃ l, good l ∧ (bK l).size ≤ 255 ∧ x.f0 = bK l then ((Classical.choose h).map eF).reverse else []
def kH (x : RR) : ByteArray := if jB x.f1 x.f4 = true then oG x.f1 x.f4 else x.f4
noncomputable def bG : RR → RR → Int := kI (fun a b => cmpL (iZ a) (iZ b)) (kI (fun a b => ny a.f1 b.f1) (kI (fun a b => ny a.f2 b.f2) (fun a b => kg (kH a).toList (kH b).toList)))
theorem jA : fE bG := (fE.pull nG iZ).kI ((fE.pull Ag (·.f1)).kI ((fE.pull Ag (·.f2)).kI (fE.pull nH fun x => (kH x).toList)))
theorem Gm (x : RR) (hx : x.f4.size ≤ 100000) : jh.f x.f0 x.f1 x.f2 x.f3 x.f4 = some (kH x) := by
 unfold jh.f iQ.f kR.f kH
 rw [if_pos (by omega), if_pos (by omega)]
 simp only [Option.bind_some]
 split <;> rfl
theorem mJ (x : RR) (hx : bE x.f0 = true) : ∃ l, good l ∧ (bK l).size ≤ 255 ∧ x.f0 = bK l ∧ iZ x = (l.map eF).reverse := by
 have hd : ∃ l, good l ∧ (bK l).size ≤ 255 ∧ x.f0 = bK l := by
  obtain ⟨l, h1, h2, h3⟩ := (kN x.f0).mp hx
  exact ⟨l, h1, h3, h2⟩
 have hs := Classical.choose_spec hd
 exact ⟨Classical.choose hd, hs.1, hs.2.1, hs.2.2, by unfold iZ; rw [dif_pos hd]⟩
theorem BM (x y : RR) (hx : bE x.f0 = true) (hy : bE y.f0 = true) (sx : x.f4.size ≤ 100000) (sy : y.f4.size ≤ 100000) (k : Nat) (hk : 1000 ≤ k) : Ij k x y = some (bG x y) := by
 obtain ⟨l, gl, sl, el, kl⟩ := mJ x hx
 obtain ⟨m, gm, sm, em, km⟩ := mJ y hy
 unfold Ij eO.f
 rw [Gm x sx, Gm y sy, Gr, Gr, el, em, xX l m gl gm sl sm k (by omega)]
 simp only [Option.bind_some]
 rw [show ig.f (kH x) (kH y) = some (kg (kH x).toList (kH y).toList) from rfl]
 simp only [Option.bind_some]
 rw [LZ _ _ _ _ k (by omega), Option.bind_some]
 unfold or4 bG kI
 simp only [kl, km]
 rfl
end Go.Y.Rrs
namespace Go.Y.PRr
open Go.Proofs.aj.aC Go.Proofs.aj.aT Go.Proofs.aj.aV Go.Y.Given Go.Y.PRd
attribute [local go_sem] dK dN dY dX dB dA dL dM
def gN.f (a0 : Int) (a1 : Bool) : Option (Bool) := if a0 = 1 then (some true) else (if a0 = 254 then (some (!a1)) else (some false))
theorem gN.calls (a0 : Int) (a1 : Bool) (r : Bool) (w : World) (h : gN.f a0 a1 = some r) :
  Calls Tryz.prog 70 #[.int .i64 a0, .bool a1] w fun e w' => e = .returned (.bool r) ∧ aY w w' := by
 have H : (if a0 = 1 then (some true) else (if a0 = 254 then (some (!a1)) else (some false))) = some r := h
 clear h
 by_cases c3 : a0 = 1
 ·rw [if_pos c3] at H
  have c3b0 : (a0 == 1) = true := beq_iff_eq.mpr c3
  have c3b1 : (a0 != 1) = false := bne_eq_false_iff_eq.mpr c3
  clear c3
  obtain rfl := Option.some.inj H
  go_enter Tryz.func70, Tryz.ntmps70
  go_wp2
  go_ret
  exact ⟨by rfl, by repeat ((exact aY.refl _))⟩
 ·rw [if_neg c3] at H
  have c3b0 : (a0 == 1) = false := beq_eq_false_iff_ne.mpr c3
  have c3b1 : (a0 != 1) = true := bne_iff_ne.mpr c3
  by_cases c4 : a0 = 254
  ·rw [if_pos c4] at H
   have c4b0 : (a0 == 254) = true := beq_iff_eq.mpr c4
   have c4b1 : (a0 != 254) = false := bne_eq_false_iff_eq.mpr c4
   clear c4
   obtain rfl := Option.some.inj H
   go_enter Tryz.func70, Tryz.ntmps70
   go_wp2
   go_ret
   exact ⟨by rfl, by repeat ((exact aY.refl _))⟩
  ·rw [if_neg c4] at H
   have c4b0 : (a0 == 254) = false := beq_eq_false_iff_ne.mpr c4
   have c4b1 : (a0 != 254) = true := bne_iff_ne.mpr c4
   obtain rfl := Option.some.inj H
   go_enter Tryz.func70, Tryz.ntmps70
   go_wp2
   go_ret
   exact ⟨by rfl, by repeat ((exact aY.refl _))⟩
def bf.j0 : Nat → Bool → ByteArray → Int → Int → Int → ByteArray → Option (Bool)
 | 0, _, _, _, _, _, _ => none
 | k + 1, x42, x141000, x141001, x141002, x141003, x141004 => if x42 = true then (some false) else ((gN.f x141002 x141004.toList.isEmpty).bind fun t142 => (if t142 = true then ((dU.f k x141001 x141004).bind fun t143 => (some t143)) else (some true)))
def bf.f (k : Nat) (a0_0 : ByteArray) (a0_1 : Int) (a0_2 : Int) (a0_3 : Int) (a0_4 : ByteArray) : Option (Bool) := (bL.f k a0_0).bind fun t141 => (if t141 = true then (if a0_1 < 0 then (bf.j0 k true a0_0 a0_1 a0_2 a0_3 a0_4) else (if a0_1 > 65535 then (bf.j0 k true a0_0 a0_1 a0_2 a0_3 a0_4) else (if a0_2 < 0 then (bf.j0 k true a0_0 a0_1 a0_2 a0_3 a0_4) else (if a0_2 > 65535 then (bf.j0 k true a0_0 a0_1 a0_2 a0_3 a0_4) else (if a0_3 < 0 then (bf.j0 k true a0_0 a0_1 a0_2 a0_3 a0_4) else (if a0_3 > 2147483647 then (bf.j0 k true a0_0 a0_1 a0_2 a0_3 a0_4) else (bf.j0 k (decide ((a0_4.size : Int) > 65535)) a0_0 a0_1 a0_2 a0_3 a0_4))))))) else (bf.j0 k true a0_0 a0_1 a0_2 a0_3 a0_4))
theorem bf.calls (k : Nat) (a0_0 : ByteArray) (a0_1 : Int) (a0_2 : Int) (a0_3 : Int) (a0_4 : ByteArray) (r : Bool) (w : World) (h : bf.f k a0_0 a0_1 a0_2 a0_3 a0_4 = some r) :
    Calls Tryz.prog 33 #[.agg #[.string a0_0, .int .i64 a0_1, .int .i64 a0_2, .int .i64 a0_3, .string a0_4]] w fun e w' => e = .returned (.bool r) ∧ Below w.heap.size w w' := by
  have hu28 := Tryz.underlying28
  have HB := ah.mk (Below.refl w.heap.size w)
  have H : ((bL.f k a0_0).bind fun t141 => (if t141 = true then (if a0_1 < 0 then (bf.j0 k true a0_0 a0_1 a0_2 a0_3 a0_4) else (if a0_1 > 65535 then (bf.j0 k true a0_0 a0_1 a0_2 a0_3 a0_4) else (if a0_2 < 0 then (bf.j0 k true a0_0 a0_1 a0_2 a0_3 a0_4) else (if a0_2 > 65535 then (bf.j0 k true a0_0 a0_1 a0_2 a0_3 a0_4) else (if a0_3 < 0 then (bf.j0 k true a0_0 a0_1 a0_2 a0_3 a0_4) else (if a0_3 > 2147483647 then (bf.j0 k true a0_0 a0_1 a0_2 a0_3 a0_4) else (bf.j0 k (decide ((a0_4.size : Int) > 65535)) a0_0 a0_1 a0_2 a0_3 a0_4))))))) else (bf.j0 k true a0_0 a0_1 a0_2 a0_3 a0_4))) = some r := h
  clear h
  have HC2 := ah.mk H
  clear H
  go_enter Tryz.func33, Tryz.ntmps33
  go_upto_region 1 with ((((with_reducible refine bY (N := 1) rfl ?_); (try (refine fJ (by rfl) ?_; dsimp only)); refine dx ?hg (N := 1) ?hd (cs := #[.string a0_0, .int .i64 a0_1, .int .i64 a0_2, .int .i64 a0_3, .string a0_4]) (t := 28) ?hr ?_; (case hd => rfl); (case hg => rfl); (case hr => (go_simp; done)); intro gb140 hg w3 hbox hb; have BK140 := ah.mk (hbox); have GW140 := ah.mk (ge_ hg (av HB.out)); have GE140 := ah.mk (ge_ hg (av HB.out)); replace HB := ah.mk (au HB.out hb); clear hb hbox hg)))
  go_cut [42] (fun v42 wc => ∃ (kq : Nat) (x42_1 : Bool), v42 = .bool x42_1 ∧ ah (bf.j0 kq x42_1 a0_0 a0_1 a0_2 a0_3 a0_4 = some r) ∧ ah (kq ≤ k) ∧ ah (wc.heap[gb140]? = some (.cells #[.string a0_0, .int .i64 a0_1, .int .i64 a0_2, .int .i64 a0_3, .string a0_4] 28 (0, 0))) ∧ ah (Below w.heap.size w wc))
  case first =>
   have H := HC2.out
   clear HC2
   obtain ⟨t141, A4, H⟩ := bZ H
   by_cases c5 : t141 = true
   focus
    subst c5
    rw [if_pos rfl] at H
    by_cases c6 : a0_1 < 0
    focus
     rw [if_pos c6] at H
     have c6b0 : decide (a0_1 < 0) = true := decide_eq_true c6
    rotate_left
    focus
     rw [if_neg c6] at H
     have c6b0 : decide (a0_1 < 0) = false := decide_eq_false c6
    rotate_left
    all_goals
     clear c6
     (skip)
    rotate_left
    focus
     by_cases c10 : a0_1 > 65535
     focus
      rw [if_pos c10] at H
      have c10b0 : decide (65535 < a0_1) = true := decide_eq_true c10
      clear c10
     rotate_left
     focus
      rw [if_neg c10] at H
      have c10b0 : decide (65535 < a0_1) = false := decide_eq_false c10
      clear c10
      by_cases c14 : a0_2 < 0
      focus
       rw [if_pos c14] at H
       have c14b0 : decide (a0_2 < 0) = true := decide_eq_true c14
       clear c14
      rotate_left
      focus
       rw [if_neg c14] at H
       have c14b0 : decide (a0_2 < 0) = false := decide_eq_false c14
       clear c14
       by_cases c18 : a0_2 > 65535
       focus
        rw [if_pos c18] at H
        have c18b0 : decide (65535 < a0_2) = true := decide_eq_true c18
        clear c18
       rotate_left
       focus
        rw [if_neg c18] at H
        have c18b0 : decide (65535 < a0_2) = false := decide_eq_false c18
        clear c18
        by_cases c22 : a0_3 < 0
        focus
         rw [if_pos c22] at H
         have c22b0 : decide (a0_3 < 0) = true := decide_eq_true c22
         clear c22
        rotate_left
        focus
         rw [if_neg c22] at H
         have c22b0 : decide (a0_3 < 0) = false := decide_eq_false c22
         clear c22
         by_cases c26 : a0_3 > 2147483647
         focus
          rw [if_pos c26] at H
          have c26b0 : decide (2147483647 < a0_3) = true := decide_eq_true c26
         rotate_left
         focus
          rw [if_neg c26] at H
          have c26b0 : decide (2147483647 < a0_3) = false := decide_eq_false c26
         rotate_left
         all_goals
          clear c26
        rotate_left 2
       rotate_left 3
      rotate_left 4
     rotate_left 5
    rotate_left 6
   rotate_left 7
   focus
    replace c5 := Bool.eq_false_iff.mpr c5
    subst c5
    rw [if_neg ff_] at H
   rotate_left
   all_goals
    have H' := ah.mk H
    clear H
    obtain ⟨hcz7_0, hcz7_1, hcz7_2, hcz7_3, hcz7_4, hfz7_0, hfz7_1, hfz7_2, hfz7_3, hfz7_4⟩ := z5_ BK140.out
   iterate 7
    focus
     go_wp2_with (((refine gl_ (some 5) Tryz.func58 #[.string a0_0] ?_; (with_reducible refine (bL.calls k a0_0 _ _ A4.out).mono ?_); rintro e w8 ⟨rfl, hb⟩; refine ⟨_, rfl, ?_⟩; replace BK140 := ah.mk (aD (by ((exact BK140.out))) hb); replace HB := ah.mk (au HB.out hb); (try clear hb); obtain ⟨hcz9_0, hcz9_1, hcz9_2, hcz9_3, hcz9_4, hfz9_0, hfz9_1, hfz9_2, hfz9_3, hfz9_4⟩ := z5_ BK140.out)))
     go_meet
    rotate_left
   rotate_left
   ·case rel => exact ⟨_, (true), (by rfl), H', ⟨by omega⟩, ⟨by (with_reducible repeat ((refine ay ?_ _))); exact BK140.out⟩, ⟨HB.out⟩⟩
   ·case rel => exact ⟨_, (true), (by rfl), H', ⟨by omega⟩, ⟨by (with_reducible repeat ((refine ay ?_ _))); exact BK140.out⟩, ⟨HB.out⟩⟩
   ·case rel => exact ⟨_, (true), (by rfl), H', ⟨by omega⟩, ⟨by (with_reducible repeat ((refine ay ?_ _))); exact BK140.out⟩, ⟨HB.out⟩⟩
   ·case rel => exact ⟨_, (true), (by rfl), H', ⟨by omega⟩, ⟨by (with_reducible repeat ((refine ay ?_ _))); exact BK140.out⟩, ⟨HB.out⟩⟩
   ·case rel => exact ⟨_, (true), (by rfl), H', ⟨by omega⟩, ⟨by (with_reducible repeat ((refine ay ?_ _))); exact BK140.out⟩, ⟨HB.out⟩⟩
   ·case rel => exact ⟨_, (true), (by rfl), H', ⟨by omega⟩, ⟨by (with_reducible repeat ((refine ay ?_ _))); exact BK140.out⟩, ⟨HB.out⟩⟩
   ·case rel => exact ⟨_, (decide ((a0_4.size : Int) > 65535)), (by rfl), H', ⟨by omega⟩, ⟨by (with_reducible repeat ((refine ay ?_ _))); exact BK140.out⟩, ⟨HB.out⟩⟩
   ·go_wp2_with (((refine gl_ (some 5) Tryz.func58 #[.string a0_0] ?_; (with_reducible refine (bL.calls k a0_0 _ _ A4.out).mono ?_); rintro e w34 ⟨rfl, hb⟩; refine ⟨_, rfl, ?_⟩; replace BK140 := ah.mk (aD (by ((exact BK140.out))) hb); replace HB := ah.mk (au HB.out hb); (try clear hb))))
    go_meet
    case rel => exact ⟨_, (true), (by rfl), H', ⟨by omega⟩, ⟨by (with_reducible repeat ((refine ay ?_ _))); exact BK140.out⟩, ⟨HB.out⟩⟩
  case rest =>
   clear HC2
   obtain ⟨kq, x42_1, rfl, HA, HJ1, BK140, HB⟩ := hcut
   cases kq with
   | zero => exact absurd HA.out (by simp [bf.j0])
   | succ kj1 =>
    have H := HA.out
    clear HA
    simp only [bf.j0] at H
    by_cases c35 : x42_1 = true
    focus
     subst c35
     rw [if_pos rfl] at H
     obtain rfl := Option.some.inj H
     go_wp2
    rotate_left
    focus
     replace c35 := Bool.eq_false_iff.mpr c35
     subst c35
     rw [if_neg ff_] at H
     obtain ⟨t142, A36, H⟩ := bZ H
     by_cases c37 : t142 = true
     focus
      subst c37
      rw [if_pos rfl] at H
      obtain ⟨t143, A38, H⟩ := bZ H
     rotate_left
     focus
      replace c37 := Bool.eq_false_iff.mpr c37
      subst c37
      rw [if_neg ff_] at H
     rotate_left
     all_goals
      obtain rfl := Option.some.inj H
      obtain ⟨hcz39_0, hcz39_1, hcz39_2, hcz39_3, hcz39_4, hfz39_0, hfz39_1, hfz39_2, hfz39_3, hfz39_4⟩ := z5_ BK140.out
     focus
      go_wp2_with (first | (refine gl_ (some 48) Tryz.func70 #[.int .i64 a0_2, .bool a0_4.toList.isEmpty] ?_; (with_reducible refine (gN.calls a0_2 a0_4.toList.isEmpty _ _ A36.out).mono ?_); rintro e w' ⟨rfl, ⟨nd, rfl⟩⟩; refine ⟨_, rfl, ?_⟩) | (go_at_call 71; (with_reducible refine (dU.calls kj1 a0_1 a0_4 t143 _ A38.out).mono ?_); rintro e w40 ⟨rfl, hb⟩; replace BK140 := ah.mk (aD (by ((exact BK140.out))) hb); replace HB := ah.mk (au (by repeat ((with_reducible first | exact HB.out | apply aR))) hb); (try clear hb)))
     rotate_left
     focus
      go_wp2_with (((refine gl_ (some 48) Tryz.func70 #[.int .i64 a0_2, .bool a0_4.toList.isEmpty] ?_; (with_reducible refine (gN.calls a0_2 a0_4.toList.isEmpty _ _ A36.out).mono ?_); rintro e w' ⟨rfl, ⟨nd, rfl⟩⟩; refine ⟨_, rfl, ?_⟩)))
     rotate_left
    rotate_left 2
    all_goals
     go_ret
     exact ⟨by rfl, by repeat ((with_reducible first | exact HB.out | apply aR))⟩
def gF.f (k : Nat) (a0_0 : ByteArray) (a0_1 : Int) (a0_2 : Int) (a0_3 : Int) (a0_4 : ByteArray) : Option (ByteArray) := (dU.f k a0_1 a0_4).bind fun t145 => (if t145 = true then ((bP.f k a0_1 a0_4).bind fun t146 => (some t146)) else (some a0_4))
theorem gF.calls (k : Nat) (a0_0 : ByteArray) (a0_1 : Int) (a0_2 : Int) (a0_3 : Int) (a0_4 : ByteArray) (r : ByteArray) (w : World) (h : gF.f k a0_0 a0_1 a0_2 a0_3 a0_4 = some r) :
    Calls Tryz.prog 77 #[.agg #[.string a0_0, .int .i64 a0_1, .int .i64 a0_2, .int .i64 a0_3, .string a0_4]] w fun e w' => e = .returned (.string r) ∧ Below w.heap.size w w' := by
  have hu28 := Tryz.underlying28
  have HB := ah.mk (Below.refl w.heap.size w)
  have H : ((dU.f k a0_1 a0_4).bind fun t145 => (if t145 = true then ((bP.f k a0_1 a0_4).bind fun t146 => (some t146)) else (some a0_4))) = some r := h
  clear h
  obtain ⟨t145, A2, H⟩ := bZ H
  by_cases c3 : t145 = true
  focus
   subst c3
   rw [if_pos rfl] at H
   obtain ⟨t146, A4, H⟩ := bZ H
  rotate_left
  focus
   replace c3 := Bool.eq_false_iff.mpr c3
   subst c3
   rw [if_neg ff_] at H
  rotate_left
  all_goals
   obtain rfl := Option.some.inj H
   go_enter Tryz.func77, Tryz.ntmps77
  focus
   go_wp2_with (first | ((with_reducible refine bY (N := 1) rfl ?_); refine dx ?hg (N := 1) ?hd (cs := #[.string a0_0, .int .i64 a0_1, .int .i64 a0_2, .int .i64 a0_3, .string a0_4]) (t := 28) ?hr ?_; (case hd => rfl); (case hg => rfl); (case hr => (go_simp; done)); intro gb144 hg w5 hbox hb; have BK144 := ah.mk (hbox); have GW144 := ah.mk (ge_ hg (av HB.out)); have GE144 := ah.mk (ge_ hg (av HB.out)); replace HB := ah.mk (au HB.out hb); clear hb hbox hg; obtain ⟨hcz6_0, hcz6_1, hcz6_2, hcz6_3, hcz6_4, hfz6_0, hfz6_1, hfz6_2, hfz6_3, hfz6_4⟩ := z5_ BK144.out) | (refine gl_ (some 7) Tryz.func71 #[.int .i64 a0_1, .string a0_4] ?_; (with_reducible refine (dU.calls k a0_1 a0_4 _ _ A2.out).mono ?_); rintro e w7 ⟨rfl, hb⟩; refine ⟨_, rfl, ?_⟩; replace BK144 := ah.mk (aD (by ((exact BK144.out))) hb); replace HB := ah.mk (au HB.out hb); (try clear hb); obtain ⟨hcz8_0, hcz8_1, hcz8_2, hcz8_3, hcz8_4, hfz8_0, hfz8_1, hfz8_2, hfz8_3, hfz8_4⟩ := z5_ BK144.out) | (refine gl_ (some 15) Tryz.func112 #[.int .i64 a0_1, .string a0_4] ?_; (with_reducible refine (bP.calls k a0_1 a0_4 t146 _ A4.out).mono ?_); rintro e w9 ⟨rfl, hb⟩; refine ⟨_, rfl, ?_⟩; replace BK144 := ah.mk (aD (by ((exact BK144.out))) hb); replace HB := ah.mk (au HB.out hb); (try clear hb)))
  rotate_left
  focus
   go_wp2_with (first | ((with_reducible refine bY (N := 1) rfl ?_); refine dx ?hg (N := 1) ?hd (cs := #[.string a0_0, .int .i64 a0_1, .int .i64 a0_2, .int .i64 a0_3, .string a0_4]) (t := 28) ?hr ?_; (case hd => rfl); (case hg => rfl); (case hr => (go_simp; done)); intro gb144 hg w10 hbox hb; have BK144 := ah.mk (hbox); have GW144 := ah.mk (ge_ hg (av HB.out)); have GE144 := ah.mk (ge_ hg (av HB.out)); replace HB := ah.mk (au HB.out hb); clear hb hbox hg; obtain ⟨hcz11_0, hcz11_1, hcz11_2, hcz11_3, hcz11_4, hfz11_0, hfz11_1, hfz11_2, hfz11_3, hfz11_4⟩ := z5_ BK144.out) | (refine gl_ (some 7) Tryz.func71 #[.int .i64 a0_1, .string a0_4] ?_; (with_reducible refine (dU.calls k a0_1 a0_4 _ _ A2.out).mono ?_); rintro e w12 ⟨rfl, hb⟩; refine ⟨_, rfl, ?_⟩; replace BK144 := ah.mk (aD (by ((exact BK144.out))) hb); replace HB := ah.mk (au HB.out hb); (try clear hb); obtain ⟨hcz13_0, hcz13_1, hcz13_2, hcz13_3, hcz13_4, hfz13_0, hfz13_1, hfz13_2, hfz13_3, hfz13_4⟩ := z5_ BK144.out))
  rotate_left
  all_goals
   go_ret
   exact ⟨by rfl, HB.out⟩
def gH.f (a0 : Int) (a1 : Int) : Option (Int) := if a0 < a1 then (some (-1)) else (if a0 > a1 then (some 1) else (some 0))
theorem gH.calls (a0 : Int) (a1 : Int) (r : Int) (w : World) (h : gH.f a0 a1 = some r) :
  Calls Tryz.prog 76 #[.int .i64 a0, .int .i64 a1] w fun e w' => e = .returned (.int .i64 r) ∧ aY w w' := by
 have H : (if a0 < a1 then (some (-1)) else (if a0 > a1 then (some 1) else (some 0))) = some r := h
 clear h
 by_cases c3 : a0 < a1
 ·rw [if_pos c3] at H
  have c3b0 : decide (a0 < a1) = true := decide_eq_true c3
  clear c3
  obtain rfl := Option.some.inj H
  go_enter Tryz.func76, Tryz.ntmps76
  go_wp2
  go_ret
  exact ⟨by rfl, by repeat ((exact aY.refl _))⟩
 ·rw [if_neg c3] at H
  have c3b0 : decide (a0 < a1) = false := decide_eq_false c3
  clear c3
  by_cases c4 : a0 > a1
  ·rw [if_pos c4] at H
   have c4b0 : decide (a1 < a0) = true := decide_eq_true c4
   clear c4
   obtain rfl := Option.some.inj H
   go_enter Tryz.func76, Tryz.ntmps76
   go_wp2
   go_ret
   exact ⟨by rfl, by repeat ((exact aY.refl _))⟩
  ·rw [if_neg c4] at H
   have c4b0 : decide (a1 < a0) = false := decide_eq_false c4
   clear c4
   obtain rfl := Option.some.inj H
   go_enter Tryz.func76, Tryz.ntmps76
   go_wp2
   go_ret
   exact ⟨by rfl, by repeat ((exact aY.refl _))⟩
end Go.Y.PRr
namespace Go.Y.PRr
open Go.Proofs.aj.aC Go.Proofs.aj.aT Go.Proofs.aj.aV Go.Y.Given Go.Y.PRd
attribute [local go_sem] dK dN dY dX dB dA dL dM
mutual
def bN.j0 : Nat → Int → ByteArray → Int → Int → Int → ByteArray → ByteArray → Int → Int → Int → ByteArray → Option (Int)
 | 0, _, _, _, _, _, _, _, _, _, _, _ => none
 | k + 1, x5, x148000, x148001, x148002, x148003, x148004, x149000, x149001, x149002, x149003, x149004 => if x5 = 0 then ((gH.f x148002 x149002).bind fun t151 => (bN.j1 k t151 x148000 x148001 x148002 x148003 x148004 x149000 x149001 x149002 x149003 x149004)) else (bN.j1 k x5 x148000 x148001 x148002 x148003 x148004 x149000 x149001 x149002 x149003 x149004)
def bN.j1 : Nat → Int → ByteArray → Int → Int → Int → ByteArray → ByteArray → Int → Int → Int → ByteArray → Option (Int)
 | 0, _, _, _, _, _, _, _, _, _, _, _ => none
 | k + 1, x5, x148000, x148001, x148002, x148003, x148004, x149000, x149001, x149002, x149003, x149004 => if x5 = 0 then ((gF.f k x148000 x148001 x148002 x148003 x148004).bind fun t152 => ((gF.f k x149000 x149001 x149002 x149003 x149004).bind fun t153 => (if (Op.bytesLess t152.toList t153.toList) = true then (some (-1)) else (if (Op.bytesLess t153.toList t152.toList) = true then (some 1) else (some 0))))) else (some x5)
end
def bN.f (k : Nat) (a0_0 : ByteArray) (a0_1 : Int) (a0_2 : Int) (a0_3 : Int) (a0_4 : ByteArray) (a1_0 : ByteArray) (a1_1 : Int) (a1_2 : Int) (a1_3 : Int) (a1_4 : ByteArray) : Option (Int) := (aQ.f k a0_0 a1_0).bind fun t149 => (if t149 = 0 then ((gH.f a0_1 a1_1).bind fun t150 => (bN.j0 k t150 a0_0 a0_1 a0_2 a0_3 a0_4 a1_0 a1_1 a1_2 a1_3 a1_4)) else (bN.j0 k t149 a0_0 a0_1 a0_2 a0_3 a0_4 a1_0 a1_1 a1_2 a1_3 a1_4))
theorem bN.calls (k : Nat) (a0_0 : ByteArray) (a0_1 : Int) (a0_2 : Int) (a0_3 : Int) (a0_4 : ByteArray) (a1_0 : ByteArray) (a1_1 : Int) (a1_2 : Int) (a1_3 : Int) (a1_4 : ByteArray) (r : Int) (w : World) (h : bN.f k a0_0 a0_1 a0_2 a0_3 a0_4 a1_0 a1_1 a1_2 a1_3 a1_4 = some r) :
    Calls Tryz.prog 35 #[.agg #[.string a0_0, .int .i64 a0_1, .int .i64 a0_2, .int .i64 a0_3, .string a0_4], .agg #[.string a1_0, .int .i64 a1_1, .int .i64 a1_2, .int .i64 a1_3, .string a1_4]] w fun e w' => e = .returned (.int .i64 r) ∧ Below w.heap.size w w' := by
  have hu28 := Tryz.underlying28
  have HB := ah.mk (Below.refl w.heap.size w)
  have H : ((aQ.f k a0_0 a1_0).bind fun t149 => (if t149 = 0 then ((gH.f a0_1 a1_1).bind fun t150 => (bN.j0 k t150 a0_0 a0_1 a0_2 a0_3 a0_4 a1_0 a1_1 a1_2 a1_3 a1_4)) else (bN.j0 k t149 a0_0 a0_1 a0_2 a0_3 a0_4 a1_0 a1_1 a1_2 a1_3 a1_4))) = some r := h
  clear h
  obtain ⟨t149, A3, H⟩ := bZ H
  have HC4 := ah.mk H
  clear H
  go_enter Tryz.func35, Tryz.ntmps35
  go_upto_if 14 with (first | ((with_reducible refine bY (N := 2) rfl ?_); refine dx ?hg (N := 2) ?hd (cs := #[.string a0_0, .int .i64 a0_1, .int .i64 a0_2, .int .i64 a0_3, .string a0_4]) (t := 28) ?hr ?_; (case hd => rfl); (case hg => rfl); (case hr => (go_simp; done)); intro gb147 hg w5 hbox hb; have BK147 := ah.mk (hbox); have GW147 := ah.mk (ge_ hg (av HB.out)); have GE147 := ah.mk (ge_ hg (av HB.out)); replace HB := ah.mk (au HB.out hb); clear hb hbox hg) | ((with_reducible refine bY (N := 3) rfl ?_); refine dx ?hg (N := 3) ?hd (cs := #[.string a1_0, .int .i64 a1_1, .int .i64 a1_2, .int .i64 a1_3, .string a1_4]) (t := 28) ?hr ?_; (case hd => rfl); (case hg => rfl); (case hr => (go_simp; done)); intro gb148 hg w6 hbox hb; have BK148 := ah.mk (hbox); have GW148 := ah.mk (ge_ hg (av HB.out)); have GE148 := ah.mk (ge_ hg (av HB.out)); have NB147_148 := ah.mk (nl_ hg (by ((exact BK147.out)))); have NB148_147 := ah.mk (nr_ hg (by ((exact BK147.out)))); replace BK147 := ah.mk (aD (by ((exact BK147.out))) hb); replace HB := ah.mk (au HB.out hb); clear hb hbox hg; have hnb7 := NB147_148.out; have hnc7 := NB148_147.out; obtain ⟨hcz8_0, hcz8_1, hcz8_2, hcz8_3, hcz8_4, hfz8_0, hfz8_1, hfz8_2, hfz8_3, hfz8_4⟩ := z5_ BK147.out; obtain ⟨hcz9_0, hcz9_1, hcz9_2, hcz9_3, hcz9_4, hfz9_0, hfz9_1, hfz9_2, hfz9_3, hfz9_4⟩ := z5_ BK148.out) | (refine gl_ (some 12) Tryz.func29 #[.string a0_0, .string a1_0] ?_; (with_reducible refine (aQ.calls k a0_0 a1_0 t149 _ A3.out).mono ?_); rintro e w10 ⟨rfl, hb⟩; refine ⟨_, rfl, ?_⟩; replace BK147 := ah.mk (aD (by ((exact BK147.out))) hb); replace BK148 := ah.mk (aD (by ((exact BK148.out))) hb); replace HB := ah.mk (au HB.out hb); (try clear hb)))
  go_cut [5] (fun v5 wc => ∃ (kq : Nat) (x5_3 : Int), v5 = .int .i64 x5_3 ∧ ah (bN.j0 kq x5_3 a0_0 a0_1 a0_2 a0_3 a0_4 a1_0 a1_1 a1_2 a1_3 a1_4 = some r) ∧ ah (kq ≤ k) ∧ ah (wc.heap[gb147]? = some (.cells #[.string a0_0, .int .i64 a0_1, .int .i64 a0_2, .int .i64 a0_3, .string a0_4] 28 (0, 0))) ∧ ah (wc.heap[gb148]? = some (.cells #[.string a1_0, .int .i64 a1_1, .int .i64 a1_2, .int .i64 a1_3, .string a1_4] 28 (0, 0))) ∧ ah (Below w.heap.size w wc))
  case first =>
   have H := HC4.out
   clear HC4
   by_cases c11 : t149 = 0
   focus
    rw [if_pos c11] at H
    have c11b0 : (t149 == 0) = true := beq_iff_eq.mpr c11
    have c11b1 : (t149 != 0) = false := bne_eq_false_iff_eq.mpr c11
    clear c11
   rotate_left
   focus
    rw [if_neg c11] at H
    have c11b0 : (t149 == 0) = false := beq_eq_false_iff_ne.mpr c11
    have c11b1 : (t149 != 0) = true := bne_iff_ne.mpr c11
   rotate_left
   all_goals
    ((rw [c11b0]))
   ·obtain ⟨t150, A12, H⟩ := bZ H
    have H' := ah.mk H
    clear H
    have hnb13 := NB147_148.out
    have hnc13 := NB148_147.out
    obtain ⟨hcz14_0, hcz14_1, hcz14_2, hcz14_3, hcz14_4, hfz14_0, hfz14_1, hfz14_2, hfz14_3, hfz14_4⟩ := z5_ BK147.out
    obtain ⟨hcz15_0, hcz15_1, hcz15_2, hcz15_3, hcz15_4, hfz15_0, hfz15_1, hfz15_2, hfz15_3, hfz15_4⟩ := z5_ BK148.out
    go_wp2_with (((refine gl_ (some 19) Tryz.func76 #[.int .i64 a0_1, .int .i64 a1_1] ?_; (with_reducible refine (gH.calls a0_1 a1_1 t150 _ A12.out).mono ?_); rintro e w' ⟨rfl, ⟨nd, rfl⟩⟩; refine ⟨_, rfl, ?_⟩)))
    go_meet
    case rel => exact ⟨_, (t150), (by rfl), H', ⟨by omega⟩, ⟨by (with_reducible repeat ((refine ay ?_ _))); exact BK147.out⟩, ⟨by (with_reducible repeat ((refine ay ?_ _))); exact BK148.out⟩, ⟨by repeat ((with_reducible first | exact HB.out | apply aR))⟩⟩
   ·have H' := ah.mk H
    clear H
    go_wp2
    go_meet
    case rel => exact ⟨_, (t149), (by rfl), H', ⟨by omega⟩, ⟨by (with_reducible repeat ((refine ay ?_ _))); exact BK147.out⟩, ⟨by (with_reducible repeat ((refine ay ?_ _))); exact BK148.out⟩, ⟨HB.out⟩⟩
  case rest =>
   clear HC4
   (try clear hcz8_0)
   (try clear hcz8_1)
   (try clear hcz8_2)
   (try clear hcz8_3)
   (try clear hcz8_4)
   (try clear hcz9_0)
   (try clear hcz9_1)
   (try clear hcz9_2)
   (try clear hcz9_3)
   (try clear hcz9_4)
   (try clear hfz8_0)
   (try clear hfz8_1)
   (try clear hfz8_2)
   (try clear hfz8_3)
   (try clear hfz8_4)
   (try clear hfz9_0)
   (try clear hfz9_1)
   (try clear hfz9_2)
   (try clear hfz9_3)
   (try clear hfz9_4)
   obtain ⟨kq, x5_3, rfl, HA, HJ3, BK147, BK148, HB⟩ := hcut
   cases kq with
   | zero => exact absurd HA.out (by simp [bN.j0])
   | succ kj3 =>
    have H := HA.out
    clear HA
    simp only [bN.j0] at H
    have HC16 := ah.mk H
    clear H
    go_upto_if 21 with (fail)
    go_cut [5] (fun v5 wc => ∃ (kq : Nat) (x5_15 : Int), v5 = .int .i64 x5_15 ∧ ah (bN.j1 kq x5_15 a0_0 a0_1 a0_2 a0_3 a0_4 a1_0 a1_1 a1_2 a1_3 a1_4 = some r) ∧ ah (kq ≤ kj3) ∧ ah (wc.heap[gb147]? = some (.cells #[.string a0_0, .int .i64 a0_1, .int .i64 a0_2, .int .i64 a0_3, .string a0_4] 28 (0, 0))) ∧ ah (wc.heap[gb148]? = some (.cells #[.string a1_0, .int .i64 a1_1, .int .i64 a1_2, .int .i64 a1_3, .string a1_4] 28 (0, 0))) ∧ ah (Below w.heap.size w wc))
    case first =>
     have H := HC16.out
     clear HC16
     by_cases c17 : x5_3 = 0
     focus
      rw [if_pos c17] at H
      have c17b0 : (x5_3 == 0) = true := beq_iff_eq.mpr c17
      have c17b1 : (x5_3 != 0) = false := bne_eq_false_iff_eq.mpr c17
      clear c17
     rotate_left
     focus
      rw [if_neg c17] at H
      have c17b0 : (x5_3 == 0) = false := beq_eq_false_iff_ne.mpr c17
      have c17b1 : (x5_3 != 0) = true := bne_iff_ne.mpr c17
     rotate_left
     all_goals
      ((rw [c17b0]))
     ·obtain ⟨t151, A18, H⟩ := bZ H
      have H' := ah.mk H
      clear H
      have hnb19 := NB147_148.out
      have hnc19 := NB148_147.out
      obtain ⟨hcz20_0, hcz20_1, hcz20_2, hcz20_3, hcz20_4, hfz20_0, hfz20_1, hfz20_2, hfz20_3, hfz20_4⟩ := z5_ BK147.out
      obtain ⟨hcz21_0, hcz21_1, hcz21_2, hcz21_3, hcz21_4, hfz21_0, hfz21_1, hfz21_2, hfz21_3, hfz21_4⟩ := z5_ BK148.out
      go_wp2_with (((refine gl_ (some 26) Tryz.func76 #[.int .i64 a0_2, .int .i64 a1_2] ?_; (with_reducible refine (gH.calls a0_2 a1_2 t151 _ A18.out).mono ?_); rintro e w' ⟨rfl, ⟨nd, rfl⟩⟩; refine ⟨_, rfl, ?_⟩)))
      go_meet
      case rel => exact ⟨_, (t151), (by rfl), H', ⟨by have := HJ3.out; omega⟩, ⟨by (with_reducible repeat ((refine ay ?_ _))); exact BK147.out⟩, ⟨by (with_reducible repeat ((refine ay ?_ _))); exact BK148.out⟩, ⟨by repeat ((with_reducible first | exact HB.out | apply aR))⟩⟩
     ·have H' := ah.mk H
      clear H
      go_wp2
      go_meet
      case rel => exact ⟨_, (x5_3), (by rfl), H', ⟨by have := HJ3.out; omega⟩, ⟨by (with_reducible repeat ((refine ay ?_ _))); exact BK147.out⟩, ⟨by (with_reducible repeat ((refine ay ?_ _))); exact BK148.out⟩, ⟨HB.out⟩⟩
    case rest =>
     clear HC16
     obtain ⟨kq, x5_15, rfl, HA, HJ15, BK147, BK148, HB⟩ := hcut
     cases kq with
     | zero => exact absurd HA.out (by simp [bN.j1])
     | succ kj15 =>
      have H := HA.out
      clear HA
      simp only [bN.j1] at H
      by_cases c22 : x5_15 = 0
      focus
       rw [if_pos c22] at H
       have c22b0 : (x5_15 == 0) = true := beq_iff_eq.mpr c22
       have c22b1 : (x5_15 != 0) = false := bne_eq_false_iff_eq.mpr c22
       clear c22
       obtain ⟨t152, A23, H⟩ := bZ H
       obtain ⟨t153, A24, H⟩ := bZ H
       by_cases c25 : (Op.bytesLess t152.toList t153.toList) = true
       focus
        rw [if_pos c25] at H
        have c25b0 : (Op.bytesLess t152.toList t153.toList) = true := c25
        have c25b8 : (t153.toList == t152.toList) = false := tK c25b0
        clear c25
       rotate_left
       focus
        rw [if_neg c25] at H
        have c25b0 : (Op.bytesLess t152.toList t153.toList) = false := by simpa using c25
        clear c25
        by_cases c29 : (Op.bytesLess t153.toList t152.toList) = true
        focus
         rw [if_pos c29] at H
         have c29b0 : (Op.bytesLess t153.toList t152.toList) = true := c29
         have c29b8 : (t152.toList == t153.toList) = false := tK c29b0
        rotate_left
        focus
         rw [if_neg c29] at H
         have c29b0 : (Op.bytesLess t153.toList t152.toList) = false := by simpa using c29
         (try have c29b8 : (t152.toList == t153.toList) = true := xw (by assumption) c29b0)
        rotate_left
        all_goals
         clear c29
       rotate_left 2
       all_goals
        obtain rfl := Option.some.inj H
        (try go_wp2)
        replace BK147 := ah.mk (fu BK147.out)
        replace BK148 := ah.mk (fu BK148.out)
        replace HB := ah.mk (bW HB.out)
        refine jd (n := 6) (ds := []) (ls 6 0) (by kernel_rfl) rfl rfl (c5_ BK147.out (d5_ BK148.out)) (fun hHeld => ?_)
        generalize wc.drew = w26 at BK147 BK148 HB hHeld ⊢
        refine lu (i := 0) (N := some 30) (v := ?_) (a' := ?_) (ls 6 1) rfl rfl (by kernel_rfl) (fun _ _ _ h => h) (Or.inl ⟨by rfl, ?_⟩) hHeld ?_ ?_
        rotate_left
        ·rintro w' ⟨s0, s1, s2, s3, s4, s5, s6, s7, s8, s9⟩
         go_simp
         with_reducible rfl
        rotate_left
        ·simp only [Act.put, sA_, sZ_, sS_, fA, gq]
         rfl
        refine lu (i := 2) (N := some 32) (v := ?_) (a' := ?_) (ls 6 5) rfl rfl (by kernel_rfl) (fun _ _ _ h => h) (Or.inl ⟨by rfl, ?_⟩) hHeld ?_ ?_
        rotate_left
        ·rintro w' ⟨s0, s1, s2, s3, s4, s5, s6, s7, s8, s9⟩
         go_simp
         with_reducible rfl
        rotate_left
        ·simp only [Act.put, sA_, sZ_, sS_, fA, gq]
         rfl
        refine oV (i := 1) (N := some 31) (ls 6 7) rfl rfl (by kernel_rfl) (by decide) (fun K hK => ?_)
        refine gs_ Tryz.func77 #[.agg #[.string a0_0, .int .i64 a0_1, .int .i64 a0_2, .int .i64 a0_3, .string a0_4]] ?_
        with_reducible refine (gF.calls kj15 a0_0 a0_1 a0_2 a0_3 a0_4 t152 _ A23.out).mono ?_
        rintro e w27 ⟨rfl, hb⟩
        refine ⟨_, rfl, ?_⟩
        replace BK147 := ah.mk (aD (by ((exact BK147.out))) hb)
        replace BK148 := ah.mk (aD (by ((exact BK148.out))) hb)
        replace HB := ah.mk (au HB.out hb)
        (try clear hb)
        refine hK.out _ _ (c5_ BK147.out (d5_ BK148.out)) (fun hHeld => ?_)
        clear hK K
        refine nm_ (N := (some 31)) ?_
        refine oV (i := 3) (N := some 33) (ls 6 15) rfl rfl (by kernel_rfl) (by decide) (fun K hK => ?_)
        refine gs_ Tryz.func77 #[.agg #[.string a1_0, .int .i64 a1_1, .int .i64 a1_2, .int .i64 a1_3, .string a1_4]] ?_
        with_reducible refine (gF.calls kj15 a1_0 a1_1 a1_2 a1_3 a1_4 t153 _ A24.out).mono ?_
        rintro e w28 ⟨rfl, hb⟩
        refine ⟨_, rfl, ?_⟩
        replace BK147 := ah.mk (aD (by ((exact BK147.out))) hb)
        replace BK148 := ah.mk (aD (by ((exact BK148.out))) hb)
        replace HB := ah.mk (au HB.out hb)
        (try clear hb)
        refine hK.out _ _ (c5_ BK147.out (d5_ BK148.out)) (fun hHeld => ?_)
        clear hK K
        refine nm_ (N := (some 33)) ?_
        refine jG (i := 4) (N := some 6) (v := ?_) (a' := ?_) (ls 6 31) rfl rfl (by kernel_rfl) (fun _ _ _ h => h) (Or.inl ⟨by rfl, ?_⟩) ?_ ?_
        rotate_left
        ·intro w'
         go_simp
         with_reducible rfl
        rotate_left
        ·simp only [Act.put, sA_, sZ_, sS_, fA, gq]
         rfl
        refine jG (i := 5) (N := some 7) (v := ?_) (a' := ?_) (ls 6 63) rfl rfl (by kernel_rfl) (fun _ _ _ h => h) (Or.inl ⟨by rfl, ?_⟩) ?_ ?_
        rotate_left
        ·intro w'
         go_simp
         with_reducible rfl
        rotate_left
        ·simp only [Act.put, sA_, sZ_, sS_, fA, gq]
         rfl
        refine lC (by kernel_rfl) ?_
        (try go_wp2)
      rotate_left 3
      focus
       rw [if_neg c22] at H
       have c22b0 : (x5_15 == 0) = false := beq_eq_false_iff_ne.mpr c22
       have c22b1 : (x5_15 != 0) = true := bne_iff_ne.mpr c22
       obtain rfl := Option.some.inj H
       go_wp2
      rotate_left
      all_goals
       go_ret
       exact ⟨by rfl, HB.out⟩
end Go.Y.PRr
namespace Go.Y.Rrs
open Go.Proofs.aj.aC Go.Proofs.aj.aT Go.Proofs.aj.aV Go.Y.Given Go.Y.PRd Go.Y.PRr Go.Y.Oct Go.Y.Name Go.Y.Cmp Go.Y.fq Go.Y.eD Go.Y.dJ
theorem KV (a b : Int) : gH.f a b = some (ny a b) := by
 unfold gH.f ny
 repeat' split
 all_goals rfl
theorem Jv (x : RR) (hx : x.f4.size ≤ 100000) (k : Nat) (hk : FU + 2000 ≤ k) : gF.f k x.f0 x.f1 x.f2 x.f3 x.f4 = some (kH x) := by
 unfold gF.f kH
 rw [vG x.f1 x.f4 (by omega) k hk, Kt x.f1 x.f4 (by omega) k hk]
 simp only [Option.bind_some]
 split <;> rfl
theorem Ki (x y : RR) (hx : bE x.f0 = true) (hy : bE y.f0 = true) (sx : x.f4.size ≤ 100000) (sy : y.f4.size ≤ 100000) (k : Nat) (hk : FU + 4000 ≤ k) : bN.f k x.f0 x.f1 x.f2 x.f3 x.f4 y.f0 y.f1 y.f2 y.f3 y.f4 = some (bG x y) := by
 obtain ⟨l, gl, sl, el, kl⟩ := mJ x hx
 obtain ⟨m, gm, sm, em, km⟩ := mJ y hy
 have hk2 : 4000 ≤ k := Nat.le_trans (Nat.le_add_left _ _) hk
 have hF : FU + 2000 ≤ k - 2 := Nat.le_sub_of_add_le (Nat.le_trans (Nat.add_le_add_left (show 2000 + 2 ≤ 4000 by decide) FU) hk)
 generalize hFU : FU + 2000 = F at hF
 have hs1 : ∀ z : RR, z.f4.size ≤ 100000 → gF.f (k - 2) z.f0 z.f1 z.f2 z.f3 z.f4 = some (kH z) := fun z hz => Jv z hz (k - 2) (by rw [hFU]; exact hF)
 clear hF hFU hk
 obtain ⟨k, rfl⟩ : ∃ j, k = j + 2 := ⟨k - 2, by omega⟩
 rw [Nat.add_sub_cancel] at hs1
 have hx1 := hs1 x sx
 have hy1 := hs1 y sy
 unfold bN.f
 rw [el] at hx1 ⊢
 rw [em] at hy1 ⊢
 rw [rO l m gl gm sl sm _ (by omega), Option.bind_some]
 have hc : CK l m = cmpL (iZ x) (iZ y) := by rw [kl, km]; rfl
 simp only [bN.j0, bN.j1, KV, hx1, hy1, Option.bind_some, hc]
 unfold bG kI
 simp only []
 by_cases a0 : cmpL (iZ x) (iZ y) = 0
 ·by_cases a1 : ny x.f1 y.f1 = 0
  ·by_cases a2 : ny x.f2 y.f2 = 0
   ·simp only [a0, a1, a2, if_true]
    rcases lN (kH x).toList (kH y).toList with ⟨h, e⟩ | ⟨h, e⟩ | ⟨h, e⟩
    ·rw [e, if_pos h]
    ·rw [e, h, if_neg (by rw [Given.qd]; decide), if_neg (by rw [Given.qd]; decide)]
    ·rw [e]
     by_cases h2 : Op.bytesLess (kH x).toList (kH y).toList = true
     ·rw [wL h2] at e; exact absurd e (by decide)
     ·rw [if_neg h2, if_pos h]
   ·simp only [a0, a1, a2, if_true, if_false]
  ·simp only [a0, a1, if_true, if_false]
 ·simp only [a0, if_false]
end Go.Y.Rrs
namespace Go.Y.PRr
open Go.Proofs.aj.aC Go.Proofs.aj.aT Go.Proofs.aj.aV Go.Y.Given Go.Y.PRd
attribute [local go_sem] dK dN dY dX dB dA dL dM
theorem DR (d : Nat) (w : World) (x0 y0 : ByteArray) (x1 y1 : Int) (x2 y2 : Int) (x3 y3 : Int) (x4 y4 : ByteArray) :
  (Op.equalIn (d + 2) 28 (.agg #[.string x0, .int .i64 x1, .int .i64 x2, .int .i64 x3, .string x4]) (.agg #[.string y0, .int .i64 y1, .int .i64 y2, .int .i64 y3, .string y4])).run Tryz.prog w = .ok (x0.toList == y0.toList && (x1 == y1 && (x2 == y2 && (x3 == y3 && (x4.toList == y4.toList))))) w := by
 refine Fx Tryz.underlying28 (by kernel_rfl) ?_
 refine lH (by rfl) (by go_simp; rfl) (by go_simp; rfl) (by go_simp) ?_
 refine lH (by rfl) (by go_simp; rfl) (by go_simp; rfl) (by go_simp) ?_
 refine lH (by rfl) (by go_simp; rfl) (by go_simp; rfl) (by go_simp) ?_
 refine lH (by rfl) (by go_simp; rfl) (by go_simp; rfl) (by go_simp) ?_
 exact AB (by rfl) (by go_simp; rfl) (by go_simp; rfl) (by go_simp)
end Go.Y.PRr
namespace Go.Y.PRr
open Go.Proofs.aj.aC Go.Proofs.aj.aT Go.Proofs.aj.aV Go.Y.Given Go.Y.PRd
attribute [local go_sem] dK dN dY dX dB dA dL dM
def jr.T1 : Bool × List (List Nat × List Nat) := (true, [([], []), ([0], [0]), ([], []), ([2], [2]), ([1, 3], [1, 3]), ([4, 4], [4]), ([5], [5]), ([6, 5], [5, 6]), ([5], [5]), ([8, 5], [5, 8]), ([7, 9, 5], [5, 7, 9]), ([5, 10], [5, 10]), ([11, 5], [11]), ([12], [12]), ([13, 12], [12, 13]), ([12], [12]), ([15, 12], [12, 15]), ([14, 16, 12], [12, 14, 16]), ([12, 17], [12, 17]), ([18, 12], [18]), ([19], [19]), ([20, 19, 19], [19, 20]), ([19], [19]), ([22, 21, 19], [19, 22]), ([21, 23, 19], [19, 21, 23]), ([19, 24], [19, 24]), ([25, 23, 0, 1, 2, 3, 4, 5, 6, 7, 8, 9, 10, 11, 12, 13, 14, 15, 16, 17, 18, 19, 20, 21, 22, 23, 24, 25], [25])])
def jr.B1 : List Nat := [0, 1, 0, 4, 15, 31, 63, 127, 63, 319, 1023, 2047, 4095, 8191, 16383, 8191, 40959, 131071, 262143, 524287, 1048575, 2097151, 1048575, 8388607, 16777215, 33554431, 67108863]
theorem jr.Lj : iH .any (opsOf Tryz.f82 1) = jr.T1 := by kernel_rfl
theorem jr.Jm : jD jr.T1.2 jr.B1 = true := by kernel_rfl
end Go.Y.PRr
namespace Go.Y.PRr
open Go.Proofs.aj.aC Go.Proofs.aj.aT Go.Proofs.aj.aV Go.Y.Given Go.Y.PRd
attribute [local go_sem] dK dN dY dX dB dA dL dM
attribute [local go_sem high] DR
mutual
def aK.l0 : Nat → List (S28) → List (S28) → Bool → Int → ByteArray → Int → Int → Int → ByteArray → Option ((List (S28)))
 | 0, _, _, _, _, _, _, _, _, _ => none
 | k + 1, x0, x5, x6, x7, x162000, x162001, x162002, x162003, x162004 => if x7 < (x0.length : Int) then (if 0 ≤ x7 then ((bN.f k x162000 x162001 x162002 x162003 x162004 ((ak x0 x7).f0) ((ak x0 x7).f1) ((ak x0 x7).f2) ((ak x0 x7).f3) ((ak x0 x7).f4)).bind fun t166 => (if t166 ≤ 0 then (aK.j1 k x0 x5 x6 x7 t166 (!x6) x162000 x162001 x162002 x162003 x162004) else (aK.j1 k x0 x5 x6 x7 t166 false x162000 x162001 x162002 x162003 x162004))) else (none)) else (if x6 = true then (some x5) else (if x5.length < 2513169434916 then (some (x5 ++ [(⟨x162000, x162001, x162002, x162003, x162004⟩ : S28)])) else (none)))
def aK.j1 : Nat → List (S28) → List (S28) → Bool → Int → Int → Bool → ByteArray → Int → Int → Int → ByteArray → Option ((List (S28)))
 | 0, _, _, _, _, _, _, _, _, _, _, _ => none
 | k + 1, x0, x5, x6, x7, x8, x26, x162000, x162001, x162002, x162003, x162004 => if x26 = true then (if x5.length < 2513169434916 then ((some (x5 ++ [(⟨x162000, x162001, x162002, x162003, x162004⟩ : S28)] : List (S28))).bind fun y167 => (if x8 = 0 then (aK.l0 k x0 y167 true (wrap64 (x7 + 1)) x162000 x162001 x162002 x162003 x162004) else (if 0 ≤ x7 then (if x7 < (x0.length : Int) then (if y167.length < 2513169434916 then (aK.l0 k x0 (y167 ++ [(⟨(ak x0 x7).f0, (ak x0 x7).f1, (ak x0 x7).f2, (ak x0 x7).f3, (ak x0 x7).f4⟩ : S28)]) true (wrap64 (x7 + 1)) x162000 x162001 x162002 x162003 x162004) else (none)) else (none)) else (none)))) else (none)) else (if x8 = 0 then (aK.l0 k x0 x5 x6 (wrap64 (x7 + 1)) x162000 x162001 x162002 x162003 x162004) else (if 0 ≤ x7 then (if x7 < (x0.length : Int) then (if x5.length < 2513169434916 then (aK.l0 k x0 (x5 ++ [(⟨(ak x0 x7).f0, (ak x0 x7).f1, (ak x0 x7).f2, (ak x0 x7).f3, (ak x0 x7).f4⟩ : S28)]) x6 (wrap64 (x7 + 1)) x162000 x162001 x162002 x162003 x162004) else (none)) else (none)) else (none)))
end
def aK.f (k : Nat) (l0 : List (S28)) (a1_0 : ByteArray) (a1_1 : Int) (a1_2 : Int) (a1_3 : Int) (a1_4 : ByteArray) : Option ((List (S28))) := aK.l0 k l0 ([] : List (S28)) false 0 a1_0 a1_1 a1_2 a1_3 a1_4
theorem aK.calls (k : Nat) (A0 : Option Addr) (c0 : Nat) (l0 : List (S28)) (a1_0 : ByteArray) (a1_1 : Int) (a1_2 : Int) (a1_3 : Int) (a1_4 : ByteArray) (r : List (S28)) (w : World) (hr0 : Kd.C k28 w A0 l0.length l0) (hc0 : l0.length ≤ c0) (h : aK.f k l0 a1_0 a1_1 a1_2 a1_3 a1_4 = some r) :
  Calls Tryz.prog 41 #[.slice A0 l0.length c0, .agg #[.string a1_0, .int .i64 a1_1, .int .i64 a1_2, .int .i64 a1_3, .string a1_4]] w fun e w' => ∃ v0_ : Value, e = .returned (v0_) ∧ Kd.R k28 28 w' w.heap.size (fun _ => True) v0_ r ∧ Below w.heap.size w w' := by
 have hu28 := Tryz.underlying28
 have HR0 := ah.mk hr0
 have HC0 := ah.mk hc0
 clear hr0 hc0
 have HB := ah.mk (Below.refl w.heap.size w)
 have H : (aK.l0 k l0 ([] : List (S28)) false 0 a1_0 a1_1 a1_2 a1_3 a1_4) = some r := h
 clear h
 have H' := ah.mk H
 clear H
 go_enter Tryz.func41, Tryz.ntmps41
 go_wp2_with ((((with_reducible refine bY (N := 3) rfl ?_); refine dx ?hg (N := 3) ?hd (cs := #[.string a1_0, .int .i64 a1_1, .int .i64 a1_2, .int .i64 a1_3, .string a1_4]) (t := 28) ?hr ?_; (case hd => rfl); (case hg => rfl); (case hr => (go_simp; done)); intro gb161 hg w3 hbox hb; have BK161 := ah.mk (hbox); have GW161 := ah.mk ((by rw [hg]; exact (av (by repeat ((with_reducible (exact HB.out))))) : w.heap.size ≤ gb161)); have GE161 := ah.mk ((by rw [hg]; exact (av (by repeat ((with_reducible (exact HB.out))))) : w.heap.size ≤ gb161)); replace HB := ah.mk (au (by repeat ((with_reducible (exact HB.out)))) hb); clear hb hbox hg)))
 go_loopg [5, 6, 7] k (fun kq v5 v6 v7 w' => ∃ (x5_1 : List (S28)) (x6_1 : Bool) (x7_1 : Int), v6 = .bool x6_1 ∧ v7 = .int .i64 x7_1 ∧ ah (aK.l0 kq l0 x5_1 x6_1 x7_1 a1_0 a1_1 a1_2 a1_3 a1_4 = some r) ∧ ah (kq ≤ k) ∧ ah (Kd.R k28 28 w' w.heap.size (fun k_ => k_ ≠ gb161) v5 x5_1) ∧ ah (w'.heap[gb161]? = some (.cells #[.string a1_0, .int .i64 a1_1, .int .i64 a1_2, .int .i64 a1_3, .string a1_4] 28 (0, 0))) ∧ ah (Below w.heap.size w w'))
 case atStart => exact ⟨(([] : List (S28))), (false), (0), (by rfl), (by rfl), H', ⟨Nat.le_refl _⟩, ⟨by (exact Kd.fI _ _ _ _ _)⟩, ⟨by (with_reducible repeat ((refine ay ?_ _))); exact BK161.out⟩, ⟨by repeat ((with_reducible (exact HB.out)))⟩⟩
 case round =>
  clear H'
  obtain ⟨x5_1, x6_1, x7_1, rfl, rfl, HA, HK1, HO_5, BK161, HB⟩ := hrel
  cases gk with
  | zero => exact absurd HA.out (by simp [aK.l0])
  | succ k1 =>
   have H := HA.out
   clear HA
   simp only [aK.l0] at H
   by_cases c4 : x7_1 < (l0.length : Int)
   ·rw [if_pos c4] at H
    have c4b0 : decide (x7_1 < (l0.length : Int)) = true := decide_eq_true c4
    clear c4
    by_cases c5 : 0 ≤ x7_1
    ·rw [if_pos c5] at H
     have c5b0 : decide (0 ≤ x7_1) = true := decide_eq_true c5
     clear c5
     replace H := Option.bind_eq_some_iff.mp H
     obtain ⟨t166, A60, H⟩ := H
     replace H : (if t166 ≤ 0 then (aK.j1 k1 l0 x5_1 x6_1 x7_1 t166 (!x6_1) a1_0 a1_1 a1_2 a1_3 a1_4) else (aK.j1 k1 l0 x5_1 x6_1 x7_1 t166 false a1_0 a1_1 a1_2 a1_3 a1_4)) = some r := H
     have A6 := ah.mk A60
     clear A60
     have HC7 := ah.mk H
     clear H
     (try go_wp2)
     replace HO_5 := ah.mk (Kd.iN HO_5.out)
     replace BK161 := ah.mk (fu BK161.out)
     replace HB := ah.mk (bW HB.out)
     have p165 : 0 ≤ (x7_1 : Int) := of_decide_eq_true (by assumption)
     have q165 : x7_1 < (l0.length : Int) := of_decide_eq_true (by assumption)
     obtain ⟨ad165, e165, hx165_0, hx165_1, hx165_2, hx165_3, hx165_4⟩ := eX HR0.out x7_1 p165 q165
     have hw165_4 := hx165_4
     have hw165_3 := hx165_3
     have hw165_2 := hx165_2
     have hw165_1 := hx165_1
     have hw165_0 := hx165_0
     cases e165
     replace hx165_0 := kp_ HB.out hx165_0
     replace hx165_1 := kp_ HB.out hx165_1
     replace hx165_2 := kp_ HB.out hx165_2
     replace hx165_3 := kp_ HB.out hx165_3
     replace hx165_4 := kp_ HB.out hx165_4
     replace p165 := eq_true p165
     replace q165 := eq_true q165
     refine jd (n := 7) (ds := []) (ls 7 0) (by kernel_rfl) rfl rfl (c5_ BK161.out (ec_ (kp_ HB.out hw165_0) (ec_ (kp_ HB.out hw165_1) (ec_ (kp_ HB.out hw165_2) (ec_ (kp_ HB.out hw165_3) (ed_ (kp_ HB.out hw165_4))))))) (fun hHeld => ?_)
     generalize wr.drew = w8 at HO_5 BK161 HB hx165_0 hx165_1 hx165_2 hx165_3 hx165_4 hHeld ⊢
     refine jG (i := 1) (N := some 16) (v := ?_) (a' := ?_) (ls 7 2) rfl rfl (by kernel_rfl) (fun _ _ _ h => h) (Or.inl ⟨by rfl, ?_⟩) ?_ ?_
     rotate_left
     ·intro w'
      go_simp
      with_reducible rfl
     rotate_left
     ·simp only [Act.put, List.setIfInBounds_toArray, List.set_cons_zero, List.set_cons_succ, fA, gq]
      rfl
     refine jG (i := 2) (N := some 17) (v := ?_) (a' := ?_) (ls 7 6) rfl rfl (by kernel_rfl) (fun _ _ _ h => h) (Or.inl ⟨by rfl, ?_⟩) ?_ ?_
     rotate_left
     ·intro w'
      go_simp
      with_reducible rfl
     rotate_left
     ·simp only [Act.put, List.setIfInBounds_toArray, List.set_cons_zero, List.set_cons_succ, fA, gq]
      rfl
     refine jG (i := 3) (N := some 18) (v := ?_) (a' := ?_) (ls 7 14) rfl rfl (by kernel_rfl) (fun _ _ _ h => h) (Or.inl ⟨by rfl, ?_⟩) ?_ ?_
     rotate_left
     ·intro w'
      go_simp
      with_reducible rfl
     rotate_left
     ·simp only [Act.put, List.setIfInBounds_toArray, List.set_cons_zero, List.set_cons_succ, fA, gq]
      rfl
     refine lu (i := 0) (N := some 15) (v := ?_) (a' := ?_) (ls 7 15) rfl rfl (by kernel_rfl) (fun _ _ _ h => h) (Or.inl ⟨by rfl, ?_⟩) hHeld ?_ ?_
     rotate_left
     ·rintro w' ⟨s0, s1, s2, s3, s4, s5, s6, s7, s8, s9⟩
      go_simp
      with_reducible rfl
     rotate_left
     ·simp only [Act.put, List.setIfInBounds_toArray, List.set_cons_zero, List.set_cons_succ, fA, gq]
      rfl
     refine lu (i := 4) (N := some 19) (v := ?_) (a' := ?_) (ls 7 31) rfl rfl (by kernel_rfl) (fun _ _ _ h => h) (Or.inl ⟨by rfl, ?_⟩) hHeld ?_ ?_
     rotate_left
     ·rintro w' ⟨s0, s1, s2, s3, s4, s5, s6, s7, s8, s9⟩
      go_simp
      with_reducible rfl
     rotate_left
     ·simp only [Act.put, List.setIfInBounds_toArray, List.set_cons_zero, List.set_cons_succ, fA, gq]
      rfl
     refine oV (i := 5) (N := some 20) (ls 7 63) rfl rfl (by kernel_rfl) (by decide) (fun K hK => ?_)
     refine gs_ Tryz.func35 #[.agg #[.string a1_0, .int .i64 a1_1, .int .i64 a1_2, .int .i64 a1_3, .string a1_4], .agg #[.string ((ak l0 x7_1).f0), .int .i64 ((ak l0 x7_1).f1), .int .i64 ((ak l0 x7_1).f2), .int .i64 ((ak l0 x7_1).f3), .string ((ak l0 x7_1).f4)]] ?_
     with_reducible refine (bN.calls k1 a1_0 a1_1 a1_2 a1_3 a1_4 ((ak l0 x7_1).f0) ((ak l0 x7_1).f1) ((ak l0 x7_1).f2) ((ak l0 x7_1).f3) ((ak l0 x7_1).f4) t166 _ A6.out).mono ?_
     rintro e w9 ⟨rfl, hb⟩
     refine ⟨_, rfl, ?_⟩
     replace HO_5 := ah.mk (Kd.bS (by ((exact HO_5.out))) hb)
     replace BK161 := ah.mk (aD (by ((exact BK161.out))) hb)
     replace HB := ah.mk (au (by repeat ((with_reducible (exact HB.out)))) hb)
     (try clear hb)
     refine hK.out _ _ (c5_ BK161.out (ec_ (kp_ HB.out hw165_0) (ec_ (kp_ HB.out hw165_1) (ec_ (kp_ HB.out hw165_2) (ec_ (kp_ HB.out hw165_3) (ed_ (kp_ HB.out hw165_4))))))) (fun hHeld => ?_)
     clear hK K
     refine oL (a' := ?_) ?_ ?_
     rotate_left
     ·show Act.put _ (some 20) _ = _
      simp only [Act.put, List.setIfInBounds_toArray, List.set_cons_zero, List.set_cons_succ, fA, gq]
      rfl
     refine jG (i := 6) (N := some 8) (v := ?_) (a' := ?_) (ls 7 127) rfl rfl (by kernel_rfl) (fun _ _ _ h => h) (Or.inl ⟨by rfl, ?_⟩) ?_ ?_
     rotate_left
     ·intro w'
      go_simp
      with_reducible rfl
     rotate_left
     ·simp only [Act.put, List.setIfInBounds_toArray, List.set_cons_zero, List.set_cons_succ, fA, gq]
      rfl
     refine lC (by kernel_rfl) ?_
     go_upto_region 7 with (fail)
     go_cut [26] (fun v26 wc => ∃ (kq : Nat) (x26_6 : Bool), v26 = .bool x26_6 ∧ ah (aK.j1 kq l0 x5_1 x6_1 x7_1 t166 x26_6 a1_0 a1_1 a1_2 a1_3 a1_4 = some r) ∧ ah (kq ≤ k1) ∧ ah (Kd.R k28 28 wc w.heap.size (fun k_ => k_ ≠ gb161) u5 x5_1) ∧ ah (wc.heap[gb161]? = some (.cells #[.string a1_0, .int .i64 a1_1, .int .i64 a1_2, .int .i64 a1_3, .string a1_4] 28 (0, 0))) ∧ ah (Below w.heap.size w wc))
     case first =>
      have H := HC7.out
      clear HC7
      by_cases c10 : t166 ≤ 0
      ·rw [if_pos c10] at H
       have c10b0 : decide (t166 ≤ 0) = true := decide_eq_true c10
       clear c10
       (skip)
       have H' := ah.mk H
       clear H
       go_wp2
       go_meet
       case rel => exact ⟨_, (!x6_1), (by rfl), H', ⟨by have := HK1.out; omega⟩, ⟨by (with_reducible repeat ((apply Kd.aW))); exact HO_5.out⟩, ⟨by (with_reducible repeat ((refine ay ?_ _))); exact BK161.out⟩, ⟨by repeat ((with_reducible (exact HB.out)))⟩⟩
      ·rw [if_neg c10] at H
       have c10b0 : decide (t166 ≤ 0) = false := decide_eq_false c10
       clear c10
       (skip)
       have H' := ah.mk H
       clear H
       go_wp2
       go_meet
       case rel => exact ⟨_, (false), (by rfl), H', ⟨by have := HK1.out; omega⟩, ⟨by (with_reducible repeat ((apply Kd.aW))); exact HO_5.out⟩, ⟨by (with_reducible repeat ((refine ay ?_ _))); exact BK161.out⟩, ⟨by repeat ((with_reducible (exact HB.out)))⟩⟩
     case rest =>
      clear HC7
      (try clear c4b0)
      (try clear c5b0)
      (try clear hx165_0)
      (try clear hx165_1)
      (try clear hx165_2)
      (try clear hx165_3)
      (try clear hx165_4)
      (try clear p165)
      (try clear q165)
      obtain ⟨kq, x26_6, rfl, HA, HJ6, HO_5, BK161, HB⟩ := hcut
      cases kq with
      | zero => exact absurd HA.out (by simp [aK.j1])
      | succ kj6 =>
       have H := HA.out
       clear HA
       simp only [aK.j1] at H
       by_cases c11 : x26_6 = true
       ·subst c11
        have H1 : (if x5_1.length < 2513169434916 then ((some (x5_1 ++ [(⟨a1_0, a1_1, a1_2, a1_3, a1_4⟩ : S28)] : List (S28))).bind fun y167 => (if t166 = 0 then (aK.l0 kj6 l0 y167 true (wrap64 (x7_1 + 1)) a1_0 a1_1 a1_2 a1_3 a1_4) else (if 0 ≤ x7_1 then (if x7_1 < (l0.length : Int) then (if y167.length < 2513169434916 then (aK.l0 kj6 l0 (y167 ++ [(⟨(ak l0 x7_1).f0, (ak l0 x7_1).f1, (ak l0 x7_1).f2, (ak l0 x7_1).f3, (ak l0 x7_1).f4⟩ : S28)]) true (wrap64 (x7_1 + 1)) a1_0 a1_1 a1_2 a1_3 a1_4) else (none)) else (none)) else (none)))) else (none)) = some r := by rw [if_pos rfl] at H; exact H
        clear H
        have H := H1
        clear H1
        by_cases c12 : x5_1.length < 2513169434916
        ·rw [if_pos c12] at H
         have LMc12 := ah.mk c12
         clear c12
         obtain ⟨y167, hy167⟩ : ∃ y_ : List (S28), y_ = (x5_1 ++ [(⟨a1_0, a1_1, a1_2, a1_3, a1_4⟩ : S28)]) := ⟨_, rfl⟩
         replace H : (if t166 = 0 then (aK.l0 kj6 l0 y167 true (wrap64 (x7_1 + 1)) a1_0 a1_1 a1_2 a1_3 a1_4) else (if 0 ≤ x7_1 then (if x7_1 < (l0.length : Int) then (if y167.length < 2513169434916 then (aK.l0 kj6 l0 (y167 ++ [(⟨(ak l0 x7_1).f0, (ak l0 x7_1).f1, (ak l0 x7_1).f2, (ak l0 x7_1).f3, (ak l0 x7_1).f4⟩ : S28)]) true (wrap64 (x7_1 + 1)) a1_0 a1_1 a1_2 a1_3 a1_4) else (none)) else (none)) else (none))) = some r := by (have H2_ := (Option.bind_some _ _).symm.trans H; rw [hy167]; with_reducible exact H2_)
         have Ny167 := ah.mk hy167
         clear hy167
         by_cases c13 : t166 = 0
         ·rw [if_pos c13] at H
          have c13b0 : (t166 == 0) = true := beq_iff_eq.mpr c13
          have c13b1 : (t166 != 0) = false := bne_eq_false_iff_eq.mpr c13
          clear c13
          have H' := ah.mk H
          clear H
          obtain ⟨hcz14_0, hcz14_1, hcz14_2, hcz14_3, hcz14_4, hfz14_0, hfz14_1, hfz14_2, hfz14_3, hfz14_4⟩ := z5_ BK161.out
          go_wp2_with ((((with_reducible refine dR (b := .append) (xs := #[.tmp 27, .tmp 29]) rfl ?_); at_builtin; refine Kd.fF k28 (w0 := w) w.heap.size rfl (.tmp 27) (.tmp 29) 22 28 (.agg #[(.string ⟨#[]⟩), (.int .i64 0), (.int .i64 0), (.int .i64 0), (.string ⟨#[]⟩)]) 56 rfl Tryz.underlying22 nA rfl (by decide) (by omega) u5 x5_1 (⟨a1_0, a1_1, a1_2, a1_3, a1_4⟩ : S28) [.string a1_0, .int .i64 a1_1, .int .i64 a1_2, .int .i64 a1_3, .string a1_4] (fun k_ => k_ ≠ gb161) (fun _ => False) rfl rfl ?aP (fun _ hk => hk.elim) ?aF ?aO ?aB ?aS ?aL ?_; (case aP => exact jF _ _ _ (⟨a1_0, a1_1, a1_2, a1_3, a1_4⟩ : S28)); (case aB => exact (by repeat ((with_reducible (exact HB.out))))); (case aF => exact (fun k_ hk => Kd.rW (g := gb161) (o := .cells #[.string a1_0, .int .i64 a1_1, .int .i64 a1_2, .int .i64 a1_3, .string a1_4] 28 (0, 0)) (by ((exact BK161.out))) k_ hk)); (case aO => exact (by ((exact HO_5.out)))); (case aS => exact (av (by repeat ((with_reducible (exact HB.out)))))); (case aL => have := LMc12.out; omega); intro v168 w15 ho hb hg hat; rw [← Ny167.out] at ho; have n0_ := ah.mk (gI (g := gb161) (o := .cells #[.string a1_0, .int .i64 a1_1, .int .i64 a1_2, .int .i64 a1_3, .string a1_4] 28 (0, 0)) (by ((exact BK161.out))) hg (Kd.sQ HO_5.out (fun _ hk => hk))); have n1_ := ah.mk (hb); have n2_ := ah.mk (ho); clear BK161; clear HB; clear HO_5; have BK161 := n0_; have HB := n1_; have HO169 := n2_; clear n0_ n1_ n2_; clear ho hb hg hat)))
          go_roundg kj6
          case measure => have := HK1.out; have := HJ6.out; omega
          case rel => exact ⟨(y167), (true), (wrap64 (x7_1 + 1)), (by rfl), (by rfl), H', ⟨by have := HK1.out; have := HJ6.out; omega⟩, ⟨by (with_reducible repeat ((apply Kd.aW))); exact HO169.out⟩, ⟨by (with_reducible repeat ((refine ay ?_ _))); exact BK161.out⟩, ⟨by repeat ((with_reducible (exact HB.out)))⟩⟩
         ·rw [if_neg c13] at H
          have c13b0 : (t166 == 0) = false := beq_eq_false_iff_ne.mpr c13
          have c13b1 : (t166 != 0) = true := bne_iff_ne.mpr c13
          by_cases c16 : 0 ≤ x7_1
          ·rw [if_pos c16] at H
           have c16b0 : decide (0 ≤ x7_1) = true := decide_eq_true c16
           clear c16
           by_cases c17 : x7_1 < (l0.length : Int)
           ·rw [if_pos c17] at H
            have c17b0 : decide (x7_1 < (l0.length : Int)) = true := decide_eq_true c17
            clear c17
            by_cases c18 : y167.length < 2513169434916
            ·rw [if_pos c18] at H
             have LMc18 := ah.mk c18
             clear c18
             obtain ⟨y171, hy171⟩ : ∃ y_ : List (S28), y_ = (y167 ++ [(⟨(ak l0 x7_1).f0, (ak l0 x7_1).f1, (ak l0 x7_1).f2, (ak l0 x7_1).f3, (ak l0 x7_1).f4⟩ : S28)]) := ⟨_, rfl⟩
             replace H : (aK.l0 kj6 l0 y171 true (wrap64 (x7_1 + 1)) a1_0 a1_1 a1_2 a1_3 a1_4) = some r := by (rw [hy171]; with_reducible exact H)
             have Ny171 := ah.mk hy171
             clear hy171
             have H' := ah.mk H
             clear H
             obtain ⟨hcz19_0, hcz19_1, hcz19_2, hcz19_3, hcz19_4, hfz19_0, hfz19_1, hfz19_2, hfz19_3, hfz19_4⟩ := z5_ BK161.out
             go_wp2_with (first | ((with_reducible refine dR (b := .append) (xs := #[.tmp 27, .tmp 29]) rfl ?_); at_builtin; refine Kd.fF k28 (w0 := w) w.heap.size rfl (.tmp 27) (.tmp 29) 22 28 (.agg #[(.string ⟨#[]⟩), (.int .i64 0), (.int .i64 0), (.int .i64 0), (.string ⟨#[]⟩)]) 56 rfl Tryz.underlying22 nA rfl (by decide) (by omega) u5 x5_1 (⟨a1_0, a1_1, a1_2, a1_3, a1_4⟩ : S28) [.string a1_0, .int .i64 a1_1, .int .i64 a1_2, .int .i64 a1_3, .string a1_4] (fun k_ => k_ ≠ gb161) (fun _ => False) rfl rfl ?aP (fun _ hk => hk.elim) ?aF ?aO ?aB ?aS ?aL ?_; (case aP => exact jF _ _ _ (⟨a1_0, a1_1, a1_2, a1_3, a1_4⟩ : S28)); (case aB => exact (by repeat ((with_reducible (exact HB.out))))); (case aF => exact (fun k_ hk => Kd.rW (g := gb161) (o := .cells #[.string a1_0, .int .i64 a1_1, .int .i64 a1_2, .int .i64 a1_3, .string a1_4] 28 (0, 0)) (by ((exact BK161.out))) k_ hk)); (case aO => exact (by ((exact HO_5.out)))); (case aS => exact (av (by repeat ((with_reducible (exact HB.out)))))); (case aL => have := LMc12.out; omega); intro v168 w20 ho hb hg hat; rw [← Ny167.out] at ho; have n0_ := ah.mk (gI (g := gb161) (o := .cells #[.string a1_0, .int .i64 a1_1, .int .i64 a1_2, .int .i64 a1_3, .string a1_4] 28 (0, 0)) (by ((exact BK161.out))) hg (Kd.sQ HO_5.out (fun _ hk => hk))); have n1_ := ah.mk (hb); have n2_ := ah.mk (ho); clear BK161; clear HB; clear HO_5; have BK161 := n0_; have HB := n1_; have HO169 := n2_; clear n0_ n1_ n2_; clear ho hb hg hat; have p170 : 0 ≤ (x7_1 : Int) := of_decide_eq_true (by assumption); have q170 : x7_1 < (l0.length : Int) := of_decide_eq_true (by assumption); obtain ⟨ad170, e170, hx170_0, hx170_1, hx170_2, hx170_3, hx170_4⟩ := eX HR0.out x7_1 p170 q170; obtain rfl : ad165 = ad170 := (by injection e170); replace hx170_0 := kp_ HB.out hx170_0; replace hx170_1 := kp_ HB.out hx170_1; replace hx170_2 := kp_ HB.out hx170_2; replace hx170_3 := kp_ HB.out hx170_3; replace hx170_4 := kp_ HB.out hx170_4; replace p170 := eq_true p170; replace q170 := eq_true q170) | ((with_reducible refine dR (b := .append) (xs := #[.tmp 33, .tmp 38]) rfl ?_); at_builtin; refine Kd.fF k28 (w0 := w) w.heap.size rfl (.tmp 33) (.tmp 38) 22 28 (.agg #[(.string ⟨#[]⟩), (.int .i64 0), (.int .i64 0), (.int .i64 0), (.string ⟨#[]⟩)]) 56 rfl Tryz.underlying22 nA rfl (by decide) (by omega) v168 y167 (⟨(ak l0 x7_1).f0, (ak l0 x7_1).f1, (ak l0 x7_1).f2, (ak l0 x7_1).f3, (ak l0 x7_1).f4⟩ : S28) [.string ((ak l0 x7_1).f0), .int .i64 ((ak l0 x7_1).f1), .int .i64 ((ak l0 x7_1).f2), .int .i64 ((ak l0 x7_1).f3), .string ((ak l0 x7_1).f4)] (fun k_ => k_ ≠ gb161) (fun _ => False) rfl rfl ?aP (fun _ hk => hk.elim) ?aF ?aO ?aB ?aS ?aL ?_; (case aP => exact jF _ _ _ (⟨(ak l0 x7_1).f0, (ak l0 x7_1).f1, (ak l0 x7_1).f2, (ak l0 x7_1).f3, (ak l0 x7_1).f4⟩ : S28)); (case aB => exact (by repeat ((with_reducible (exact HB.out))))); (case aF => exact (fun k_ hk => Kd.rW (g := gb161) (o := .cells #[.string a1_0, .int .i64 a1_1, .int .i64 a1_2, .int .i64 a1_3, .string a1_4] 28 (0, 0)) (by ((exact BK161.out))) k_ hk)); (case aO => exact (by ((exact HO169.out)))); (case aS => exact (av (by repeat ((with_reducible (exact HB.out)))))); (case aL => have := LMc18.out; omega); intro v172 w21 ho hb hg hat; rw [← Ny171.out] at ho; have n0_ := ah.mk (gI (g := gb161) (o := .cells #[.string a1_0, .int .i64 a1_1, .int .i64 a1_2, .int .i64 a1_3, .string a1_4] 28 (0, 0)) (by ((exact BK161.out))) hg (Kd.sQ HO169.out (fun _ hk => hk))); have n1_ := ah.mk (hb); have n2_ := ah.mk (ho); clear BK161; clear HB; clear HO169; have BK161 := n0_; have HB := n1_; have HO173 := n2_; clear n0_ n1_ n2_; clear ho hb hg hat))
             go_roundg kj6
             case measure => have := HK1.out; have := HJ6.out; omega
             case rel => exact ⟨(y171), (true), (wrap64 (x7_1 + 1)), (by rfl), (by rfl), H', ⟨by have := HK1.out; have := HJ6.out; omega⟩, ⟨by (with_reducible repeat ((apply Kd.aW))); exact HO173.out⟩, ⟨by (with_reducible repeat ((refine ay ?_ _))); exact BK161.out⟩, ⟨by repeat ((with_reducible (exact HB.out)))⟩⟩
            ·rw [if_neg c18] at H
             exact absurd H (by simp)
           ·rw [if_neg c17] at H
            exact absurd H (by simp)
          ·rw [if_neg c16] at H
           exact absurd H (by simp)
        ·rw [if_neg c12] at H
         exact absurd H (by simp)
       ·replace c11 := Bool.eq_false_iff.mpr c11
        subst c11
        have H1 : (if t166 = 0 then (aK.l0 kj6 l0 x5_1 x6_1 (wrap64 (x7_1 + 1)) a1_0 a1_1 a1_2 a1_3 a1_4) else (if 0 ≤ x7_1 then (if x7_1 < (l0.length : Int) then (if x5_1.length < 2513169434916 then (aK.l0 kj6 l0 (x5_1 ++ [(⟨(ak l0 x7_1).f0, (ak l0 x7_1).f1, (ak l0 x7_1).f2, (ak l0 x7_1).f3, (ak l0 x7_1).f4⟩ : S28)]) x6_1 (wrap64 (x7_1 + 1)) a1_0 a1_1 a1_2 a1_3 a1_4) else (none)) else (none)) else (none))) = some r := by rw [if_neg (show ¬ (false = true) by decide)] at H; exact H
        clear H
        have H := H1
        clear H1
        by_cases c22 : t166 = 0
        ·rw [if_pos c22] at H
         have c22b0 : (t166 == 0) = true := beq_iff_eq.mpr c22
         have c22b1 : (t166 != 0) = false := bne_eq_false_iff_eq.mpr c22
         clear c22
         have H' := ah.mk H
         clear H
         go_wp2
         go_roundg kj6
         case measure => have := HK1.out; have := HJ6.out; omega
         case rel => exact ⟨(x5_1), (x6_1), (wrap64 (x7_1 + 1)), (by rfl), (by rfl), H', ⟨by have := HK1.out; have := HJ6.out; omega⟩, ⟨by (with_reducible repeat ((apply Kd.aW))); exact HO_5.out⟩, ⟨by (with_reducible repeat ((refine ay ?_ _))); exact BK161.out⟩, ⟨by repeat ((with_reducible (exact HB.out)))⟩⟩
        ·rw [if_neg c22] at H
         have c22b0 : (t166 == 0) = false := beq_eq_false_iff_ne.mpr c22
         have c22b1 : (t166 != 0) = true := bne_iff_ne.mpr c22
         by_cases c23 : 0 ≤ x7_1
         ·rw [if_pos c23] at H
          have c23b0 : decide (0 ≤ x7_1) = true := decide_eq_true c23
          clear c23
          by_cases c24 : x7_1 < (l0.length : Int)
          ·rw [if_pos c24] at H
           have c24b0 : decide (x7_1 < (l0.length : Int)) = true := decide_eq_true c24
           clear c24
           by_cases c25 : x5_1.length < 2513169434916
           ·rw [if_pos c25] at H
            have LMc25 := ah.mk c25
            clear c25
            obtain ⟨y175, hy175⟩ : ∃ y_ : List (S28), y_ = (x5_1 ++ [(⟨(ak l0 x7_1).f0, (ak l0 x7_1).f1, (ak l0 x7_1).f2, (ak l0 x7_1).f3, (ak l0 x7_1).f4⟩ : S28)]) := ⟨_, rfl⟩
            replace H : (aK.l0 kj6 l0 y175 x6_1 (wrap64 (x7_1 + 1)) a1_0 a1_1 a1_2 a1_3 a1_4) = some r := by (rw [hy175]; with_reducible exact H)
            have Ny175 := ah.mk hy175
            clear hy175
            have H' := ah.mk H
            clear H
            have p174 : 0 ≤ (x7_1 : Int) := of_decide_eq_true (by assumption)
            have q174 : x7_1 < (l0.length : Int) := of_decide_eq_true (by assumption)
            obtain ⟨ad174, e174, hx174_0, hx174_1, hx174_2, hx174_3, hx174_4⟩ := eX HR0.out x7_1 p174 q174
            obtain rfl : ad165 = ad174 := (by injection e174)
            replace hx174_0 := kp_ HB.out hx174_0
            replace hx174_1 := kp_ HB.out hx174_1
            replace hx174_2 := kp_ HB.out hx174_2
            replace hx174_3 := kp_ HB.out hx174_3
            replace hx174_4 := kp_ HB.out hx174_4
            replace p174 := eq_true p174
            replace q174 := eq_true q174
            go_wp2_with ((((with_reducible refine dR (b := .append) (xs := #[.tmp 33, .tmp 38]) rfl ?_); at_builtin; refine Kd.fF k28 (w0 := w) w.heap.size rfl (.tmp 33) (.tmp 38) 22 28 (.agg #[(.string ⟨#[]⟩), (.int .i64 0), (.int .i64 0), (.int .i64 0), (.string ⟨#[]⟩)]) 56 rfl Tryz.underlying22 nA rfl (by decide) (by omega) u5 x5_1 (⟨(ak l0 x7_1).f0, (ak l0 x7_1).f1, (ak l0 x7_1).f2, (ak l0 x7_1).f3, (ak l0 x7_1).f4⟩ : S28) [.string ((ak l0 x7_1).f0), .int .i64 ((ak l0 x7_1).f1), .int .i64 ((ak l0 x7_1).f2), .int .i64 ((ak l0 x7_1).f3), .string ((ak l0 x7_1).f4)] (fun k_ => k_ ≠ gb161) (fun _ => False) rfl rfl ?aP (fun _ hk => hk.elim) ?aF ?aO ?aB ?aS ?aL ?_; (case aP => exact jF _ _ _ (⟨(ak l0 x7_1).f0, (ak l0 x7_1).f1, (ak l0 x7_1).f2, (ak l0 x7_1).f3, (ak l0 x7_1).f4⟩ : S28)); (case aB => exact (by repeat ((with_reducible (exact HB.out))))); (case aF => exact (fun k_ hk => Kd.rW (g := gb161) (o := .cells #[.string a1_0, .int .i64 a1_1, .int .i64 a1_2, .int .i64 a1_3, .string a1_4] 28 (0, 0)) (by ((exact BK161.out))) k_ hk)); (case aO => exact (by ((exact HO_5.out)))); (case aS => exact (av (by repeat ((with_reducible (exact HB.out)))))); (case aL => have := LMc25.out; omega); intro v176 w26 ho hb hg hat; rw [← Ny175.out] at ho; have n0_ := ah.mk (gI (g := gb161) (o := .cells #[.string a1_0, .int .i64 a1_1, .int .i64 a1_2, .int .i64 a1_3, .string a1_4] 28 (0, 0)) (by ((exact BK161.out))) hg (Kd.sQ HO_5.out (fun _ hk => hk))); have n1_ := ah.mk (hb); have n2_ := ah.mk (ho); clear BK161; clear HB; clear HO_5; have BK161 := n0_; have HB := n1_; have HO177 := n2_; clear n0_ n1_ n2_; clear ho hb hg hat)))
            go_roundg kj6
            case measure => have := HK1.out; have := HJ6.out; omega
            case rel => exact ⟨(y175), (x6_1), (wrap64 (x7_1 + 1)), (by rfl), (by rfl), H', ⟨by have := HK1.out; have := HJ6.out; omega⟩, ⟨by (with_reducible repeat ((apply Kd.aW))); exact HO177.out⟩, ⟨by (with_reducible repeat ((refine ay ?_ _))); exact BK161.out⟩, ⟨by repeat ((with_reducible (exact HB.out)))⟩⟩
           ·rw [if_neg c25] at H
            exact absurd H (by simp)
          ·rw [if_neg c24] at H
           exact absurd H (by simp)
         ·rw [if_neg c23] at H
          exact absurd H (by simp)
    ·rw [if_neg c5] at H
     exact absurd H (by simp)
   ·rw [if_neg c4] at H
    have c4b0 : decide (x7_1 < (l0.length : Int)) = false := decide_eq_false c4
    clear c4
    by_cases c27 : x6_1 = true
    ·subst c27
     have H1 : (some x5_1) = some r := by rw [if_pos rfl] at H; exact H
     clear H
     have H := H1
     clear H1
     obtain rfl := Option.some.inj H
     go_wp2
     go_ret
     exact ⟨_, by rfl, by (with_reducible repeat ((apply Kd.aW))); exact Kd.dD HO_5.out (fun _ hk => trivial), by repeat ((with_reducible (exact HB.out)))⟩
    ·replace c27 := Bool.eq_false_iff.mpr c27
     subst c27
     have H1 : (if x5_1.length < 2513169434916 then (some (x5_1 ++ [(⟨a1_0, a1_1, a1_2, a1_3, a1_4⟩ : S28)])) else (none)) = some r := by rw [if_neg (show ¬ (false = true) by decide)] at H; exact H
     clear H
     have H := H1
     clear H1
     by_cases c28 : x5_1.length < 2513169434916
     ·rw [if_pos c28] at H
      have LMc28 := ah.mk c28
      clear c28
      obtain ⟨y162, hy162⟩ : ∃ y_ : List (S28), y_ = (x5_1 ++ [(⟨a1_0, a1_1, a1_2, a1_3, a1_4⟩ : S28)]) := ⟨_, rfl⟩
      replace H : (some y162) = some r := by (rw [hy162]; with_reducible exact H)
      have Ny162 := ah.mk hy162
      clear hy162
      obtain rfl := Option.some.inj H
      obtain ⟨hcz29_0, hcz29_1, hcz29_2, hcz29_3, hcz29_4, hfz29_0, hfz29_1, hfz29_2, hfz29_3, hfz29_4⟩ := z5_ BK161.out
      go_wp2_with ((((with_reducible refine dR (b := .append) (xs := #[.tmp 42, .tmp 44]) rfl ?_); at_builtin; refine Kd.fF k28 (w0 := w) w.heap.size rfl (.tmp 42) (.tmp 44) 22 28 (.agg #[(.string ⟨#[]⟩), (.int .i64 0), (.int .i64 0), (.int .i64 0), (.string ⟨#[]⟩)]) 56 rfl Tryz.underlying22 nA rfl (by decide) (by omega) u5 x5_1 (⟨a1_0, a1_1, a1_2, a1_3, a1_4⟩ : S28) [.string a1_0, .int .i64 a1_1, .int .i64 a1_2, .int .i64 a1_3, .string a1_4] (fun k_ => k_ ≠ gb161) (fun _ => False) rfl rfl ?aP (fun _ hk => hk.elim) ?aF ?aO ?aB ?aS ?aL ?_; (case aP => exact jF _ _ _ (⟨a1_0, a1_1, a1_2, a1_3, a1_4⟩ : S28)); (case aB => exact (by repeat ((with_reducible (exact HB.out))))); (case aF => exact (fun k_ hk => Kd.rW (g := gb161) (o := .cells #[.string a1_0, .int .i64 a1_1, .int .i64 a1_2, .int .i64 a1_3, .string a1_4] 28 (0, 0)) (by ((exact BK161.out))) k_ hk)); (case aO => exact (by ((exact HO_5.out)))); (case aS => exact (av (by repeat ((with_reducible (exact HB.out)))))); (case aL => have := LMc28.out; omega); intro v163 w30 ho hb hg hat; rw [← Ny162.out] at ho; have n0_ := ah.mk (gI (g := gb161) (o := .cells #[.string a1_0, .int .i64 a1_1, .int .i64 a1_2, .int .i64 a1_3, .string a1_4] 28 (0, 0)) (by ((exact BK161.out))) hg (Kd.sQ HO_5.out (fun _ hk => hk))); have n1_ := ah.mk (hb); have n2_ := ah.mk (ho); clear BK161; clear HB; clear HO_5; have BK161 := n0_; have HB := n1_; have HO164 := n2_; clear n0_ n1_ n2_; clear ho hb hg hat)))
      go_ret
      exact ⟨_, by rfl, by (with_reducible repeat ((apply Kd.aW))); exact Kd.dD HO164.out (fun _ hk => trivial), by repeat ((with_reducible (exact HB.out)))⟩
     ·rw [if_neg c28] at H
      exact absurd H (by simp)
end Go.Y.PRr
namespace Go.Y.Rrs
open Go.Proofs.aj.aC Go.Proofs.aj.aT Go.Proofs.aj.aV Go.Y.Given Go.Y.PRd Go.Y.PRr Go.Y.Oct Go.Y.Name Go.Y.Cmp Go.Y.fq Go.Y.eD Go.Y.dJ
def fine (x : RR) : Prop := bE x.f0 = true ∧ x.f4.size ≤ 100000
theorem Ev.unique {α : Type} {g : Nat → Option α} {a b : α} (h : Ev g a) (h' : Ev g b) : a = b := by
 obtain ⟨K, h⟩ := h
 obtain ⟨K', h'⟩ := h'
 have h1 := h (max K K') (Nat.le_max_left _ _)
 rw [h' (max K K') (Nat.le_max_right _ _)] at h1
 exact (Option.some.inj h1).symm
theorem Ev.const {α : Type} {o : Option α} {r : α} (h : o = some r) : Ev (fun _ => o) r := ⟨0, fun _ _ => h⟩
def mZ (c : Int) (d : ByteArray) : Bool := if c = 1 then true else if c = 254 then !d.toList.isEmpty else false
def fT (x : RR) : Bool := bE x.f0 && (decide (0 ≤ x.f1) && (decide (x.f1 ≤ 65535) && (decide (0 ≤ x.f2) && (decide (x.f2 ≤ 65535) && (decide (0 ≤ x.f3) && (decide (x.f3 ≤ 2147483647) && (decide (x.f4.size ≤ 65535) && (!mZ x.f2 x.f4 || jB x.f1 x.f4))))))))
theorem oW {x : RR} (h : fT x = true) : fine x := by
 unfold fT at h
 simp only [Bool.and_eq_true, decide_eq_true_eq] at h
 exact ⟨h.1, by omega⟩
theorem Ib {α : Type} (l : List α) (i : Nat) (h : i + 1 < l.length) : l.drop i = l[i] :: l[i + 1] :: l.drop (i + 2) := by
 rw [List.drop_eq_getElem_cons (by omega), List.drop_eq_getElem_cons (by omega)]
end Go.Y.Rrs
namespace Go.Y.PRr
open Go.Proofs.aj.aC Go.Proofs.aj.aT Go.Proofs.aj.aV Go.Y.Given Go.Y.PRd
attribute [local go_sem] dK dN dY dX dB dA dL dM
def fU.f (a0 : Int) : Option (Bool) := if a0 ≥ 1 then (if a0 ≤ 65535 then (if a0 = 41 then (some false) else (if a0 < 128 then (some true) else (some (decide (a0 > 255))))) else (some false)) else (some false)
theorem fU.calls (a0 : Int) (r : Bool) (w : World) (h : fU.f a0 = some r) :
    Calls Tryz.prog 90 #[.int .i64 a0] w fun e w' => e = .returned (.bool r) ∧ aY w w' := by
  have H : (if a0 ≥ 1 then (if a0 ≤ 65535 then (if a0 = 41 then (some false) else (if a0 < 128 then (some true) else (some (decide (a0 > 255))))) else (some false)) else (some false)) = some r := h
  clear h
  by_cases c2 : a0 ≥ 1
  focus
   rw [if_pos c2] at H
   have c2b0 : decide (1 ≤ a0) = true := decide_eq_true c2
   clear c2
   by_cases c3 : a0 ≤ 65535
   focus
    rw [if_pos c3] at H
    have c3b0 : decide (a0 ≤ 65535) = true := decide_eq_true c3
    clear c3
    by_cases c4 : a0 = 41
    focus
     rw [if_pos c4] at H
     have c4b0 : (a0 == 41) = true := beq_iff_eq.mpr c4
     have c4b1 : (a0 != 41) = false := bne_eq_false_iff_eq.mpr c4
     clear c4
    rotate_left
    focus
     rw [if_neg c4] at H
     have c4b0 : (a0 == 41) = false := beq_eq_false_iff_ne.mpr c4
     have c4b1 : (a0 != 41) = true := bne_iff_ne.mpr c4
     by_cases c5 : a0 < 128
     focus
      rw [if_pos c5] at H
      have c5b0 : decide (a0 < 128) = true := decide_eq_true c5
     rotate_left
     focus
      rw [if_neg c5] at H
      have c5b0 : decide (a0 < 128) = false := decide_eq_false c5
     rotate_left
     all_goals
      clear c5
    rotate_left 2
   rotate_left 3
   focus
    rw [if_neg c3] at H
    have c3b0 : decide (a0 ≤ 65535) = false := decide_eq_false c3
    clear c3
   rotate_left
  rotate_left 4
  focus
   rw [if_neg c2] at H
   have c2b0 : decide (1 ≤ a0) = false := decide_eq_false c2
   clear c2
  rotate_left
  all_goals
   obtain rfl := Option.some.inj H
   go_enter Tryz.func90, Tryz.ntmps90
   go_wp2
   go_ret
   exact ⟨by rfl, by repeat ((exact aY.refl _))⟩
def gL.f (k : Nat) (a0 : ByteArray) (a1_0 : ByteArray) (a1_1 : Int) (a1_2 : Int) (a1_3 : Int) (a1_4 : ByteArray) : Option (Bool) := if a1_2 = 1 then ((fU.f a1_1).bind fun t130 => (if t130 = true then ((bB.f k a1_0 a0).bind fun t131 => (some t131)) else (some false))) else (some false)
theorem gL.mono : ∀ a0 a1 a2 a3 a4 a5 k, LeO (gL.f k a0 a1 a2 a3 a4 a5) (gL.f (k + 1) a0 a1 a2 a3 a4 a5) := by
 intro a0 a1 a2 a3 a4 a5 k
 unfold gL.f
 repeat' first
   | (with_reducible exact bB.mono _ _ _)
   | (with_reducible exact LeO.refl _)
   | (with_reducible exact LeO.none _)
   | (with_reducible refine LeO.ite ?_ ?_)
   | (with_reducible refine LeO.bind ?_ (fun _ => ?_))
   | exact bB.mono _ _ _
   | exact LeO.none _
   | refine LeO.ite ?_ ?_
   | refine LeO.bind ?_ (fun _ => ?_)
theorem gL.calls (k : Nat) (a0 : ByteArray) (a1_0 : ByteArray) (a1_1 : Int) (a1_2 : Int) (a1_3 : Int) (a1_4 : ByteArray) (r : Bool) (w : World) (h : gL.f k a0 a1_0 a1_1 a1_2 a1_3 a1_4 = some r) :
    Calls Tryz.prog 54 #[.string a0, .agg #[.string a1_0, .int .i64 a1_1, .int .i64 a1_2, .int .i64 a1_3, .string a1_4]] w fun e w' => e = .returned (.bool r) ∧ Below w.heap.size w w' := by
  have hu28 := Tryz.underlying28
  have HB := ah.mk (Below.refl w.heap.size w)
  have H : (if a1_2 = 1 then ((fU.f a1_1).bind fun t130 => (if t130 = true then ((bB.f k a1_0 a0).bind fun t131 => (some t131)) else (some false))) else (some false)) = some r := h
  clear h
  by_cases c3 : a1_2 = 1
  focus
   rw [if_pos c3] at H
   have c3b0 : (a1_2 == 1) = true := beq_iff_eq.mpr c3
   have c3b1 : (a1_2 != 1) = false := bne_eq_false_iff_eq.mpr c3
   clear c3
   obtain ⟨t130, A4, H⟩ := bZ H
   by_cases c5 : t130 = true
   focus
    subst c5
    rw [if_pos rfl] at H
    obtain ⟨t131, A6, H⟩ := bZ H
   rotate_left
   focus
    replace c5 := Bool.eq_false_iff.mpr c5
    subst c5
    rw [if_neg ff_] at H
   rotate_left
  rotate_left 2
  focus
   rw [if_neg c3] at H
   have c3b0 : (a1_2 == 1) = false := beq_eq_false_iff_ne.mpr c3
   have c3b1 : (a1_2 != 1) = true := bne_iff_ne.mpr c3
  rotate_left
  all_goals
   obtain rfl := Option.some.inj H
   go_enter Tryz.func54, Tryz.ntmps54
  focus
   go_wp2_with (first | ((with_reducible refine bY (N := 3) rfl ?_); refine dx ?hg (N := 3) ?hd (cs := #[.string a1_0, .int .i64 a1_1, .int .i64 a1_2, .int .i64 a1_3, .string a1_4]) (t := 28) ?hr ?_; (case hd => rfl); (case hg => rfl); (case hr => (go_simp; done)); intro gb129 hg w7 hbox hb; have BK129 := ah.mk (hbox); have GW129 := ah.mk (ge_ hg (av HB.out)); have GE129 := ah.mk (ge_ hg (av HB.out)); replace HB := ah.mk (au HB.out hb); clear hb hbox hg; obtain ⟨hcz8_0, hcz8_1, hcz8_2, hcz8_3, hcz8_4, hfz8_0, hfz8_1, hfz8_2, hfz8_3, hfz8_4⟩ := z5_ BK129.out) | (go_at_call 90; (with_reducible refine (fU.calls a1_1 _ _ A4.out).mono ?_); rintro e w' ⟨rfl, ⟨nd, rfl⟩⟩) | (go_at_call 91; (with_reducible refine (bB.calls k a1_0 a0 t131 _ A6.out).mono ?_); rintro e w9 ⟨rfl, hb⟩; replace BK129 := ah.mk (aD (by ((exact BK129.out))) hb); replace HB := ah.mk (au (by repeat ((with_reducible first | exact HB.out | apply aR))) hb); (try clear hb)))
  rotate_left
  focus
   go_wp2_with (first | ((with_reducible refine bY (N := 3) rfl ?_); refine dx ?hg (N := 3) ?hd (cs := #[.string a1_0, .int .i64 a1_1, .int .i64 a1_2, .int .i64 a1_3, .string a1_4]) (t := 28) ?hr ?_; (case hd => rfl); (case hg => rfl); (case hr => (go_simp; done)); intro gb129 hg w10 hbox hb; have BK129 := ah.mk (hbox); have GW129 := ah.mk (ge_ hg (av HB.out)); have GE129 := ah.mk (ge_ hg (av HB.out)); replace HB := ah.mk (au HB.out hb); clear hb hbox hg; obtain ⟨hcz11_0, hcz11_1, hcz11_2, hcz11_3, hcz11_4, hfz11_0, hfz11_1, hfz11_2, hfz11_3, hfz11_4⟩ := z5_ BK129.out) | (go_at_call 90; (with_reducible refine (fU.calls a1_1 _ _ A4.out).mono ?_); rintro e w' ⟨rfl, ⟨nd, rfl⟩⟩))
  rotate_left
  focus
   go_wp2_with ((((with_reducible refine bY (N := 3) rfl ?_); refine dx ?hg (N := 3) ?hd (cs := #[.string a1_0, .int .i64 a1_1, .int .i64 a1_2, .int .i64 a1_3, .string a1_4]) (t := 28) ?hr ?_; (case hd => rfl); (case hg => rfl); (case hr => (go_simp; done)); intro gb129 hg w12 hbox hb; have BK129 := ah.mk (hbox); have GW129 := ah.mk (ge_ hg (av HB.out)); have GE129 := ah.mk (ge_ hg (av HB.out)); replace HB := ah.mk (au HB.out hb); clear hb hbox hg; obtain ⟨hcz13_0, hcz13_1, hcz13_2, hcz13_3, hcz13_4, hfz13_0, hfz13_1, hfz13_2, hfz13_3, hfz13_4⟩ := z5_ BK129.out)))
  rotate_left
  all_goals
   go_ret
   exact ⟨by rfl, by repeat ((with_reducible first | exact HB.out | apply aR))⟩
end Go.Y.PRr
namespace Go.Y.PRr
open Go.Proofs.aj.aC Go.Proofs.aj.aT Go.Proofs.aj.aV Go.Y.Given Go.Y.PRd
attribute [local go_sem] dK dN dY dX dB dA dL dM
def bU.l0 : Nat → List (S28) → List (S28) → Int → Int → Option (Bool)
 | 0, _, _, _, _ => none
 | k + 1, x0, x5, x6, x7 => if x7 < x6 then (if 0 ≤ x7 then (if x7 < (x5.length : Int) then (if ((ak x5 x7).f1) = 5 then (if x7 > 0 then (if 0 ≤ (wrap64 (x7 - 1)) then (if (wrap64 (x7 - 1)) < (x0.length : Int) then ((eu.f ((ak x0 (wrap64 (x7 - 1))).f0) ((ak x5 x7).f0)).bind fun t135 => (if t135 = true then (some false) else (if (wrap64 (x7 + 1)) < (x0.length : Int) then (if 0 ≤ (wrap64 (x7 + 1)) then ((eu.f ((ak x0 (wrap64 (x7 + 1))).f0) ((ak x5 x7).f0)).bind fun t137 => (if t137 = true then (some false) else (bU.l0 k x0 x5 x6 (wrap64 (x7 + 1))))) else (none)) else (bU.l0 k x0 x5 x6 (wrap64 (x7 + 1)))))) else (none)) else (none)) else (if (wrap64 (x7 + 1)) < (x0.length : Int) then (if 0 ≤ (wrap64 (x7 + 1)) then ((eu.f ((ak x0 (wrap64 (x7 + 1))).f0) ((ak x5 x7).f0)).bind fun t139 => (if t139 = true then (some false) else (bU.l0 k x0 x5 x6 (wrap64 (x7 + 1))))) else (none)) else (bU.l0 k x0 x5 x6 (wrap64 (x7 + 1))))) else (bU.l0 k x0 x5 x6 (wrap64 (x7 + 1)))) else (none)) else (none)) else (some true)
def bU.f (k : Nat) (l0 : List (S28)) : Option (Bool) := bU.l0 k l0 l0 (l0.length : Int) 0
def bU.T5 : Bool × List (List Nat × List Nat) := (true, [([], []), ([0], [0]), ([1], [1]), ([2], [2]), ([2], [2]), ([4, 2], [2, 4]), ([3, 5, 2], [2, 3, 5]), ([6, 2], [2, 6]), ([7, 2], [2, 7]), ([2], [2]), ([9, 2], [2, 9]), ([8, 10, 2, 2], [2, 8, 10]), ([2, 11], [2, 11]), ([12, 11], [12]), ([13], [13]), ([14, 13], [13, 14]), ([13], [13]), ([16, 13], [13, 16]), ([15, 17, 13], [13, 15, 17]), ([18, 13, 13], [13, 18]), ([19], [19]), ([19], [19]), ([21, 19], [19, 21]), ([20, 22, 19], [19, 20, 22]), ([23, 19], [19, 23]), ([24, 19], [19, 24]), ([19], [19]), ([26, 19], [19, 26]), ([25, 27, 19, 19], [19, 25, 27]), ([19, 28, 13], [13, 19, 28]), ([13, 29], [13, 29])])
def bU.B5 : List Nat := [0, 1, 3, 7, 7, 23, 63, 127, 255, 7, 519, 2047, 4095, 8191, 16383, 32767, 16383, 81919, 262143, 524287, 1048575, 1048575, 3145727, 8388607, 16777215, 33554431, 1048575, 68157439, 268435455, 536870911, 1073741823]
theorem bU.AQ : iH .any (opsOf Tryz.f56 5) = bU.T5 := by kernel_rfl
theorem bU.wO : jD bU.T5.2 bU.B5 = true := by kernel_rfl
theorem bU.calls (k : Nat) (A0 : Option Addr) (c0 : Nat) (l0 : List (S28)) (r : Bool) (w : World) (hr0 : Kd.C k28 w A0 l0.length l0) (hc0 : l0.length ≤ c0) (h : bU.f k l0 = some r) :
    Calls Tryz.prog 56 #[.slice A0 l0.length c0] w fun e w' => e = .returned (.bool r) ∧ Below w.heap.size w w' := by
  have hu28 := Tryz.underlying28
  have HR0 := ah.mk hr0
  have HC0 := ah.mk hc0
  clear hr0 hc0
  have HB := ah.mk (Below.refl w.heap.size w)
  have H : (bU.l0 k l0 l0 (l0.length : Int) 0) = some r := h
  clear h
  have H' := ah.mk H
  clear H
  go_enter Tryz.func56, Tryz.ntmps56
  go_wp2
  go_loopg [7] k (fun kq v7 w' => ∃ (x7_1 : Int), v7 = .int .i64 x7_1 ∧ ah (bU.l0 kq l0 l0 (l0.length : Int) x7_1 = some r) ∧ ah (kq ≤ k) ∧ ah (Below w.heap.size w w'))
  case atStart => exact ⟨(0), (by rfl), H', ⟨Nat.le_refl _⟩, ⟨HB.out⟩⟩
  case round =>
   clear H'
   obtain ⟨x7_1, rfl, HA, HK1, HB⟩ := hrel
   cases gk with
   | zero => exact absurd HA.out (by simp [bU.l0])
   | succ k1 =>
    have H := HA.out
    clear HA
    simp only [bU.l0] at H
    by_cases c2 : x7_1 < (l0.length : Int)
    ·rw [if_pos c2] at H
     have c2b0 : decide (x7_1 < (l0.length : Int)) = true := decide_eq_true c2
     clear c2
     obtain ⟨c3b0, H⟩ := eU H
     obtain ⟨c4b0, H⟩ := eU H
     by_cases c5 : ((ak l0 x7_1).f1) = 5
     focus
      rw [if_pos c5] at H
      have c5b0 : (((ak l0 x7_1).f1) == 5) = true := beq_iff_eq.mpr c5
      have c5b1 : (((ak l0 x7_1).f1) != 5) = false := bne_eq_false_iff_eq.mpr c5
      clear c5
      by_cases c6 : x7_1 > 0
      focus
       rw [if_pos c6] at H
       have c6b0 : decide (0 < x7_1) = true := decide_eq_true c6
       clear c6
       obtain ⟨ji7, hji7⟩ : ∃ j_ : Int, (wrap64 (x7_1 - 1)) = j_ := ⟨_, rfl⟩
       rw [hji7] at H
       have hji7w : (IntKind.i64.wrap (x7_1 - 1)) = ji7 := (fA _).trans hji7
       obtain ⟨c8b0, H⟩ := eU H
       obtain ⟨c9b0, H⟩ := eU H
       obtain ⟨t135, A10, H⟩ := bZ H
       by_cases c11 : t135 = true
       focus
        subst c11
        rw [if_pos rfl] at H
        obtain rfl := Option.some.inj H
       rotate_left
       focus
        replace c11 := Bool.eq_false_iff.mpr c11
        subst c11
        rw [if_neg ff_] at H
        by_cases c17 : (wrap64 (x7_1 + 1)) < (l0.length : Int)
        focus
         rw [if_pos c17] at H
         have c17b0 : decide ((wrap64 (x7_1 + 1)) < (l0.length : Int)) = true := decide_eq_true c17
         clear c17
         obtain ⟨ji18, hji18⟩ : ∃ j_ : Int, (wrap64 (x7_1 + 1)) = j_ := ⟨_, rfl⟩
         rw [hji18] at H
         (try rw [hji18] at c17b0)
         have hji18w : (IntKind.i64.wrap (x7_1 + 1)) = ji18 := (fA _).trans hji18
         obtain ⟨c19b0, H⟩ := eU H
         obtain ⟨t137, A20, H⟩ := bZ H
         by_cases c21 : t137 = true
         focus
          subst c21
          rw [if_pos rfl] at H
          obtain rfl := Option.some.inj H
         rotate_left
         focus
          replace c21 := Bool.eq_false_iff.mpr c21
          subst c21
          rw [if_neg ff_] at H
          have H' := ah.mk H
          clear H
         rotate_left
        rotate_left 2
        focus
         rw [if_neg c17] at H
         have c17b0 : decide ((wrap64 (x7_1 + 1)) < (l0.length : Int)) = false := decide_eq_false c17
         clear c17
         have H' := ah.mk H
         clear H
        rotate_left
       rotate_left 3
      rotate_left 4
      focus
       rw [if_neg c6] at H
       have c6b0 : decide (0 < x7_1) = false := decide_eq_false c6
       clear c6
       by_cases c39 : (wrap64 (x7_1 + 1)) < (l0.length : Int)
       focus
        rw [if_pos c39] at H
        have c39b0 : decide ((wrap64 (x7_1 + 1)) < (l0.length : Int)) = true := decide_eq_true c39
        clear c39
        obtain ⟨ji40, hji40⟩ : ∃ j_ : Int, (wrap64 (x7_1 + 1)) = j_ := ⟨_, rfl⟩
        rw [hji40] at H
        (try rw [hji40] at c39b0)
        have hji40w : (IntKind.i64.wrap (x7_1 + 1)) = ji40 := (fA _).trans hji40
        obtain ⟨c41b0, H⟩ := eU H
        obtain ⟨t139, A42, H⟩ := bZ H
        by_cases c43 : t139 = true
        focus
         subst c43
         rw [if_pos rfl] at H
         obtain rfl := Option.some.inj H
        rotate_left
        focus
         replace c43 := Bool.eq_false_iff.mpr c43
         subst c43
         rw [if_neg ff_] at H
         have H' := ah.mk H
         clear H
        rotate_left
       rotate_left 2
       focus
        rw [if_neg c39] at H
        have c39b0 : decide ((wrap64 (x7_1 + 1)) < (l0.length : Int)) = false := decide_eq_false c39
        clear c39
        have H' := ah.mk H
        clear H
       rotate_left
      rotate_left 3
     rotate_left 7
     focus
      rw [if_neg c5] at H
      have c5b0 : (((ak l0 x7_1).f1) == 5) = false := beq_eq_false_iff_ne.mpr c5
      have c5b1 : (((ak l0 x7_1).f1) != 5) = true := bne_iff_ne.mpr c5
      have H' := ah.mk H
      clear H
     rotate_left
     all_goals
      have p132 : 0 ≤ (x7_1 : Int) := of_decide_eq_true (by assumption)
      have q132 : x7_1 < (l0.length : Int) := of_decide_eq_true (by assumption)
      obtain ⟨ad132, e132, hx132_0, hx132_1, hx132_2, hx132_3, hx132_4⟩ := eX HR0.out x7_1 p132 q132
      cases e132
      replace hx132_0 := kp_ HB.out hx132_0
      replace hx132_1 := kp_ HB.out hx132_1
      replace hx132_2 := kp_ HB.out hx132_2
      replace hx132_3 := kp_ HB.out hx132_3
      replace hx132_4 := kp_ HB.out hx132_4
      replace p132 := eq_true p132
      replace q132 := eq_true q132
     iterate 7
      focus
       (try go_wp2_with ((((with_reducible refine bY (N := 4) rfl ?_); (try (refine fJ (by rfl) ?_; dsimp only)); refine dx ?hg (N := 4) ?hd (cs := #[.string (⟨#[]⟩ : ByteArray), .int .i64 0, .int .i64 0, .int .i64 0, .string (⟨#[]⟩ : ByteArray)]) (t := 28) ?hr ?_; (case hd => rfl); (case hg => rfl); (case hr => (go_simp; done)); intro gb133 hg w12 hbox hb; have BK133 := ah.mk (hbox); have GW133 := ah.mk (ge_ hg (av HB.out)); have GE133 := ah.mk (ge_ hg (av HB.out)); replace HB := ah.mk (au HB.out hb); clear hb hbox hg; obtain ⟨hcz13_0, hcz13_1, hcz13_2, hcz13_3, hcz13_4, hfz13_0, hfz13_1, hfz13_2, hfz13_3, hfz13_4⟩ := z5_ BK133.out))))
       have n0_ : ah ((((((w12.setCell ⟨gb133, 0, none⟩ (.string ((ak l0 x7_1).f0))).setCell ⟨gb133, 1, none⟩ (.int .i64 ((ak l0 x7_1).f1))).setCell ⟨gb133, 2, none⟩ (.int .i64 ((ak l0 x7_1).f2))).setCell ⟨gb133, 3, none⟩ (.int .i64 ((ak l0 x7_1).f3))).setCell ⟨gb133, 4, none⟩ (.string ((ak l0 x7_1).f4))).heap[gb133]? = some (.cells #[.string ((ak l0 x7_1).f0), .int .i64 ((ak l0 x7_1).f1), .int .i64 ((ak l0 x7_1).f2), .int .i64 ((ak l0 x7_1).f3), .string ((ak l0 x7_1).f4)] 28 (0, 0))) := ⟨by (with_reducible repeat ((refine ay ?_ _))); refine bH (cs := #[.string ((ak l0 x7_1).f0), .int .i64 ((ak l0 x7_1).f1), .int .i64 ((ak l0 x7_1).f2), .int .i64 ((ak l0 x7_1).f3), .string (⟨#[]⟩ : ByteArray)]) ?_ 4 _ rfl; (with_reducible repeat ((refine ay ?_ _))); refine bH (cs := #[.string ((ak l0 x7_1).f0), .int .i64 ((ak l0 x7_1).f1), .int .i64 ((ak l0 x7_1).f2), .int .i64 0, .string (⟨#[]⟩ : ByteArray)]) ?_ 3 _ rfl; (with_reducible repeat ((refine ay ?_ _))); refine bH (cs := #[.string ((ak l0 x7_1).f0), .int .i64 ((ak l0 x7_1).f1), .int .i64 0, .int .i64 0, .string (⟨#[]⟩ : ByteArray)]) ?_ 2 _ rfl; (with_reducible repeat ((refine ay ?_ _))); refine bH (cs := #[.string ((ak l0 x7_1).f0), .int .i64 0, .int .i64 0, .int .i64 0, .string (⟨#[]⟩ : ByteArray)]) ?_ 1 _ rfl; (with_reducible repeat ((refine ay ?_ _))); refine bH (cs := #[.string (⟨#[]⟩ : ByteArray), .int .i64 0, .int .i64 0, .int .i64 0, .string (⟨#[]⟩ : ByteArray)]) ?_ 0 _ rfl; (with_reducible repeat ((refine ay ?_ _))); exact BK133.out⟩
       have n1_ : ah (Below w.heap.size w (((((w12.setCell ⟨gb133, 0, none⟩ (.string ((ak l0 x7_1).f0))).setCell ⟨gb133, 1, none⟩ (.int .i64 ((ak l0 x7_1).f1))).setCell ⟨gb133, 2, none⟩ (.int .i64 ((ak l0 x7_1).f2))).setCell ⟨gb133, 3, none⟩ (.int .i64 ((ak l0 x7_1).f3))).setCell ⟨gb133, 4, none⟩ (.string ((ak l0 x7_1).f4)))) := ⟨by repeat ((with_reducible first | exact HB.out | refine dw ?_ GE133.out))⟩
       (try clear BK133)
       (try clear HB)
       generalize (((((w12.setCell ⟨gb133, 0, none⟩ (.string ((ak l0 x7_1).f0))).setCell ⟨gb133, 1, none⟩ (.int .i64 ((ak l0 x7_1).f1))).setCell ⟨gb133, 2, none⟩ (.int .i64 ((ak l0 x7_1).f2))).setCell ⟨gb133, 3, none⟩ (.int .i64 ((ak l0 x7_1).f3))).setCell ⟨gb133, 4, none⟩ (.string ((ak l0 x7_1).f4))) = w14 at n0_ n1_ ⊢
       have BK133 := n0_
       have HB := n1_
       clear n0_ n1_
       replace BK133 := ah.mk (fu BK133.out)
       replace HB := ah.mk (bW HB.out)
      rotate_left
     rotate_left
     iterate 4
      focus
       have p134 : 0 ≤ ((ji7) : Int) := of_decide_eq_true (by assumption)
       have q134 : (ji7) < (l0.length : Int) := of_decide_eq_true (by assumption)
       obtain ⟨ad134, e134, hx134_0, hx134_1, hx134_2, hx134_3, hx134_4⟩ := eX HR0.out (ji7) p134 q134
       have hw134_4 := hx134_4
       have hw134_3 := hx134_3
       have hw134_2 := hx134_2
       have hw134_1 := hx134_1
       have hw134_0 := hx134_0
       obtain rfl : ad132 = ad134 := (by injection e134)
       replace hx134_0 := kp_ HB.out hx134_0
       replace hx134_1 := kp_ HB.out hx134_1
       replace hx134_2 := kp_ HB.out hx134_2
       replace hx134_3 := kp_ HB.out hx134_3
       replace hx134_4 := kp_ HB.out hx134_4
       replace p134 := eq_true p134
       replace q134 := eq_true q134
      rotate_left
     rotate_left 4
     focus
      refine jd (n := 31) (ds := []) (ls 31 0) (by kernel_rfl) rfl rfl (c5_ BK133.out (ec_ (kp_ HB.out hw134_0) (ec_ (kp_ HB.out hw134_1) (ec_ (kp_ HB.out hw134_2) (ec_ (kp_ HB.out hw134_3) (ed_ (kp_ HB.out hw134_4))))))) (fun hHeld => ?_); refine iL bU.AQ bU.wO (fun HT_ HW_ => ?_)
      generalize w14.drew = w15 at BK133 HB hx134_0 hx134_1 hx134_2 hx134_3 hx134_4 hHeld ⊢
     rotate_left
     iterate 2
      focus
       have p136 : 0 ≤ ((ji18) : Int) := of_decide_eq_true (by assumption)
       have q136 : (ji18) < (l0.length : Int) := of_decide_eq_true (by assumption)
       obtain ⟨ad136, e136, hx136_0, hx136_1, hx136_2, hx136_3, hx136_4⟩ := eX HR0.out (ji18) p136 q136
       have hw136_4 := hx136_4
       have hw136_3 := hx136_3
       have hw136_2 := hx136_2
       have hw136_1 := hx136_1
       have hw136_0 := hx136_0
       obtain rfl : ad132 = ad136 := (by injection e136)
       replace hx136_0 := kp_ HB.out hx136_0
       replace hx136_1 := kp_ HB.out hx136_1
       replace hx136_2 := kp_ HB.out hx136_2
       replace hx136_3 := kp_ HB.out hx136_3
       replace hx136_4 := kp_ HB.out hx136_4
       replace p136 := eq_true p136
       replace q136 := eq_true q136
       refine jd (n := 31) (ds := []) (ls 31 0) (by kernel_rfl) rfl rfl (c5_ BK133.out (ec_ (kp_ HB.out hw134_0) (ec_ (kp_ HB.out hw134_1) (ec_ (kp_ HB.out hw134_2) (ec_ (kp_ HB.out hw134_3) (ec_ (kp_ HB.out hw134_4) (ec_ (kp_ HB.out hw136_0) (ec_ (kp_ HB.out hw136_1) (ec_ (kp_ HB.out hw136_2) (ec_ (kp_ HB.out hw136_3) (ed_ (kp_ HB.out hw136_4)))))))))))) (fun hHeld => ?_); refine iL bU.AQ bU.wO (fun HT_ HW_ => ?_)
       generalize w14.drew = w25 at BK133 HB hx134_0 hx134_1 hx134_2 hx134_3 hx134_4 hx136_0 hx136_1 hx136_2 hx136_3 hx136_4 hHeld ⊢
      rotate_left
     focus
      refine jd (n := 31) (ds := []) (ls 31 0) (by kernel_rfl) rfl rfl (c5_ BK133.out (ec_ (kp_ HB.out hw134_0) (ec_ (kp_ HB.out hw134_1) (ec_ (kp_ HB.out hw134_2) (ec_ (kp_ HB.out hw134_3) (ed_ (kp_ HB.out hw134_4))))))) (fun hHeld => ?_); refine iL bU.AQ bU.wO (fun HT_ HW_ => ?_)
      generalize w14.drew = w37 at BK133 HB hx134_0 hx134_1 hx134_2 hx134_3 hx134_4 hHeld ⊢
     rotate_left
     rotate_left 4
     iterate 4
      focus
       refine td_ [(0, 15), (1, 16), (2, 17), (3, 18), (4, 19), (5, 20), (6, 21), (7, 22), (9, 24)] ?_
       iterate 9 (refine pm_ HT_ ?_)
       refine dn_ ?_
       refine td_ [(8, 23), (10, 25)] ?_
      rotate_left
     rotate_left 4
     focus
      iterate 2 (refine tm_ HT_ HW_ hHeld ?_)
     rotate_left
     iterate 2
      focus
       iterate 2 (refine tm_ HT_ HW_ hHeld ?_)
      rotate_left
     focus
      iterate 2 (refine tm_ HT_ HW_ hHeld ?_)
     rotate_left
     rotate_left 4
     iterate 4
      focus
       refine dn_ ?_
       refine jN HT_ (i := 11) (N := some 26) (ls 31 4095) (fun K hK => ?_)
       refine gs_ Tryz.func55 #[.string ((ak l0 (ji7)).f0), .string ((ak l0 x7_1).f0)] ?_
       with_reducible refine (eu.calls ((ak l0 (ji7)).f0) ((ak l0 x7_1).f0) _ _ A10.out).mono ?_
       rintro e w16 ⟨rfl, hb⟩
       refine ⟨_, rfl, ?_⟩
       replace BK133 := ah.mk (aD (by ((exact BK133.out))) hb)
       replace HB := ah.mk (au HB.out hb)
       (try clear hb)
      rotate_left
     rotate_left 4
     focus
      refine hK.out _ _ (c5_ BK133.out (ec_ (kp_ HB.out hw134_0) (ec_ (kp_ HB.out hw134_1) (ec_ (kp_ HB.out hw134_2) (ec_ (kp_ HB.out hw134_3) (ed_ (kp_ HB.out hw134_4))))))) (fun hHeld => ?_)
     rotate_left
     iterate 2
      focus
       refine hK.out _ _ (c5_ BK133.out (ec_ (kp_ HB.out hw134_0) (ec_ (kp_ HB.out hw134_1) (ec_ (kp_ HB.out hw134_2) (ec_ (kp_ HB.out hw134_3) (ec_ (kp_ HB.out hw134_4) (ec_ (kp_ HB.out hw136_0) (ec_ (kp_ HB.out hw136_1) (ec_ (kp_ HB.out hw136_2) (ec_ (kp_ HB.out hw136_3) (ed_ (kp_ HB.out hw136_4)))))))))))) (fun hHeld => ?_)
      rotate_left
     focus
      refine hK.out _ _ (c5_ BK133.out (ec_ (kp_ HB.out hw134_0) (ec_ (kp_ HB.out hw134_1) (ec_ (kp_ HB.out hw134_2) (ec_ (kp_ HB.out hw134_3) (ed_ (kp_ HB.out hw134_4))))))) (fun hHeld => ?_)
     rotate_left
     rotate_left 4
     iterate 4
      focus
       clear hK K
       refine nm_ (N := (some 26)) ?_
      rotate_left
     rotate_left 4
     focus
      refine td_ [(12, 27), (13, 28)] ?_
     rotate_left
     iterate 2
      focus
       refine td_ [(12, 27), (13, 28), (14, 29), (15, 30), (16, 31), (17, 32), (18, 33), (19, 34), (20, 35), (21, 36), (22, 37), (23, 38), (24, 39), (26, 41)] ?_
       iterate 14 (refine pm_ HT_ ?_)
       refine dn_ ?_
       refine td_ [(25, 40), (27, 42)] ?_
       iterate 2 (refine tm_ HT_ HW_ hHeld ?_)
       refine dn_ ?_
       refine jN HT_ (i := 28) (N := some 43) (ls 31 536870911) (fun K hK => ?_)
       refine gs_ Tryz.func55 #[.string ((ak l0 (ji18)).f0), .string ((ak l0 x7_1).f0)] ?_
       with_reducible refine (eu.calls ((ak l0 (ji18)).f0) ((ak l0 x7_1).f0) _ _ A20.out).mono ?_
       rintro e w27 ⟨rfl, hb⟩
       refine ⟨_, rfl, ?_⟩
       replace BK133 := ah.mk (aD (by ((exact BK133.out))) hb)
       replace HB := ah.mk (au HB.out hb)
       (try clear hb)
       refine hK.out _ _ (c5_ BK133.out (ec_ (kp_ HB.out hw134_0) (ec_ (kp_ HB.out hw134_1) (ec_ (kp_ HB.out hw134_2) (ec_ (kp_ HB.out hw134_3) (ec_ (kp_ HB.out hw134_4) (ec_ (kp_ HB.out hw136_0) (ec_ (kp_ HB.out hw136_1) (ec_ (kp_ HB.out hw136_2) (ec_ (kp_ HB.out hw136_3) (ed_ (kp_ HB.out hw136_4)))))))))))) (fun hHeld => ?_)
       clear hK K
       refine nm_ (N := (some 43)) ?_
      rotate_left
     focus
      refine td_ [(12, 27), (13, 28), (14, 29), (15, 30), (16, 31), (17, 32), (18, 33), (19, 34)] ?_
      iterate 8 (refine pm_ HT_ ?_)
      refine dn_ ?_
      refine td_ [(20, 35), (21, 36), (22, 37), (23, 38), (24, 39), (25, 40), (26, 41), (27, 42), (28, 43)] ?_
      iterate 9 (refine om_ HT_ ?_)
      refine dn_ ?_
     rotate_left
     rotate_left 5
     iterate 3
      focus
       refine td_ [(29, 44), (30, 45)] ?_
      rotate_left
     iterate 2
      focus
       have p138 : 0 ≤ ((ji40) : Int) := of_decide_eq_true (by assumption)
       have q138 : (ji40) < (l0.length : Int) := of_decide_eq_true (by assumption)
       obtain ⟨ad138, e138, hx138_0, hx138_1, hx138_2, hx138_3, hx138_4⟩ := eX HR0.out (ji40) p138 q138
       have hw138_4 := hx138_4
       have hw138_3 := hx138_3
       have hw138_2 := hx138_2
       have hw138_1 := hx138_1
       have hw138_0 := hx138_0
       obtain rfl : ad132 = ad138 := (by injection e138)
       replace hx138_0 := kp_ HB.out hx138_0
       replace hx138_1 := kp_ HB.out hx138_1
       replace hx138_2 := kp_ HB.out hx138_2
       replace hx138_3 := kp_ HB.out hx138_3
       replace hx138_4 := kp_ HB.out hx138_4
       replace p138 := eq_true p138
       replace q138 := eq_true q138
       refine jd (n := 31) (ds := []) (ls 31 0) (by kernel_rfl) rfl rfl (c5_ BK133.out (ec_ (kp_ HB.out hw138_0) (ec_ (kp_ HB.out hw138_1) (ec_ (kp_ HB.out hw138_2) (ec_ (kp_ HB.out hw138_3) (ed_ (kp_ HB.out hw138_4))))))) (fun hHeld => ?_); refine iL bU.AQ bU.wO (fun HT_ HW_ => ?_)
       generalize w14.drew = w47 at BK133 HB hx138_0 hx138_1 hx138_2 hx138_3 hx138_4 hHeld ⊢
      rotate_left
     focus
      refine jd (n := 31) (S := fun w' => True) (ds := []) (ls 31 0) (by kernel_rfl) rfl rfl trivial (fun hHeld => ?_); refine iL bU.AQ bU.wO (fun HT_ HW_ => ?_)
      generalize w14.drew = w57 at BK133 HB hHeld ⊢
     rotate_left
     rotate_left 5
     iterate 3
      focus
       refine td_ [(0, 15), (1, 16), (2, 17)] ?_
       iterate 3 (refine pm_ HT_ ?_)
       refine dn_ ?_
       refine td_ [(3, 18), (4, 19), (5, 20), (6, 21), (7, 22), (8, 23), (9, 24), (10, 25), (11, 26)] ?_
       iterate 9 (refine om_ HT_ ?_)
       refine dn_ ?_
      rotate_left
     rotate_left 5
     iterate 2
      focus
       refine td_ [(12, 27), (13, 28), (14, 29), (15, 30), (16, 31), (17, 32), (18, 33), (19, 34), (20, 35), (21, 36), (22, 37), (23, 38), (24, 39), (26, 41)] ?_
       iterate 14 (refine pm_ HT_ ?_)
       refine dn_ ?_
       refine td_ [(25, 40), (27, 42)] ?_
       iterate 2 (refine tm_ HT_ HW_ hHeld ?_)
       refine dn_ ?_
       refine jN HT_ (i := 28) (N := some 43) (ls 31 536870911) (fun K hK => ?_)
       refine gs_ Tryz.func55 #[.string ((ak l0 (ji40)).f0), .string ((ak l0 x7_1).f0)] ?_
       with_reducible refine (eu.calls ((ak l0 (ji40)).f0) ((ak l0 x7_1).f0) _ _ A42.out).mono ?_
       rintro e w48 ⟨rfl, hb⟩
       refine ⟨_, rfl, ?_⟩
       replace BK133 := ah.mk (aD (by ((exact BK133.out))) hb)
       replace HB := ah.mk (au HB.out hb)
       (try clear hb)
       refine hK.out _ _ ⟨(aJ BK133.out 0).trans rfl, (aJ BK133.out 1).trans rfl, (aJ BK133.out 2).trans rfl, (aJ BK133.out 3).trans rfl, (aJ BK133.out 4).trans rfl, (kp_ HB.out hw138_0), (kp_ HB.out hw138_1), (kp_ HB.out hw138_2), (kp_ HB.out hw138_3), (kp_ HB.out hw138_4)⟩ (fun hHeld => ?_)
       clear hK K
       refine nm_ (N := (some 43)) ?_
      rotate_left
     focus
      refine td_ [(12, 27), (13, 28), (14, 29), (15, 30), (16, 31), (17, 32), (18, 33), (19, 34)] ?_
      iterate 8 (refine pm_ HT_ ?_)
      refine dn_ ?_
      refine td_ [(20, 35), (21, 36), (22, 37), (23, 38), (24, 39), (25, 40), (26, 41), (27, 42), (28, 43)] ?_
      iterate 9 (refine om_ HT_ ?_)
      refine dn_ ?_
     rotate_left
     rotate_left 5
     iterate 3
      focus
       refine td_ [(29, 44), (30, 45)] ?_
      rotate_left
     rotate_left
     iterate 7
      focus
       iterate 2 (refine pm_ HT_ ?_)
       refine dn_ ?_
      rotate_left
     rotate_left
     focus
      refine td_ [(14, 29), (15, 30), (16, 31), (17, 32), (18, 33), (19, 34), (20, 35), (21, 36), (22, 37), (23, 38), (24, 39), (25, 40), (26, 41), (27, 42), (28, 43), (29, 44)] ?_
      iterate 16 (refine om_ HT_ ?_)
      refine dn_ ?_
      refine td_ [(30, 45)] ?_
      refine pm_ HT_ ?_
      refine dn_ ?_
     rotate_left
     rotate_left 3
     rotate_left 3
     rotate_left
     iterate 7
      focus
       refine lC (mU HT_.out (by kernel_rfl)) ?_
       (try go_wp2)
      rotate_left
     rotate_left
     ·go_ret
      exact ⟨by rfl, HB.out⟩
     ·go_ret
      exact ⟨by rfl, HB.out⟩
     ·go_roundg k1
      case measure => have := HK1.out; omega
      case rel => exact ⟨(ji18), (by rfl), H', ⟨by have := HK1.out; omega⟩, ⟨HB.out⟩⟩
     ·go_roundg k1
      case measure => have := HK1.out; omega
      case rel => exact ⟨(wrap64 (x7_1 + 1)), (by rfl), H', ⟨by have := HK1.out; omega⟩, ⟨HB.out⟩⟩
     ·go_ret
      exact ⟨by rfl, HB.out⟩
     ·go_roundg k1
      case measure => have := HK1.out; omega
      case rel => exact ⟨(ji40), (by rfl), H', ⟨by have := HK1.out; omega⟩, ⟨HB.out⟩⟩
     ·go_roundg k1
      case measure => have := HK1.out; omega
      case rel => exact ⟨(wrap64 (x7_1 + 1)), (by rfl), H', ⟨by have := HK1.out; omega⟩, ⟨HB.out⟩⟩
     ·go_wp2_with ((((with_reducible refine bY (N := 4) rfl ?_); (try (refine fJ (by rfl) ?_; dsimp only)); refine dx ?hg (N := 4) ?hd (cs := #[.string (⟨#[]⟩ : ByteArray), .int .i64 0, .int .i64 0, .int .i64 0, .string (⟨#[]⟩ : ByteArray)]) (t := 28) ?hr ?_; (case hd => rfl); (case hg => rfl); (case hr => (go_simp; done)); intro gb133 hg w58 hbox hb; have BK133 := ah.mk (hbox); have GW133 := ah.mk (ge_ hg (av HB.out)); have GE133 := ah.mk (ge_ hg (av HB.out)); replace HB := ah.mk (au HB.out hb); clear hb hbox hg; obtain ⟨hcz59_0, hcz59_1, hcz59_2, hcz59_3, hcz59_4, hfz59_0, hfz59_1, hfz59_2, hfz59_3, hfz59_4⟩ := z5_ BK133.out)))
      go_roundg k1
      case measure => have := HK1.out; omega
      case rel => exact ⟨(wrap64 (x7_1 + 1)), (by rfl), H', ⟨by have := HK1.out; omega⟩, ⟨by repeat ((with_reducible first | exact HB.out | refine dw ?_ GE133.out))⟩⟩
    ·rw [if_neg c2] at H
     have c2b0 : decide (x7_1 < (l0.length : Int)) = false := decide_eq_false c2
     clear c2
     obtain rfl := Option.some.inj H
     go_wp2
     go_ret
     exact ⟨by rfl, HB.out⟩
end Go.Y.PRr
namespace Go.Y.PRr
open Go.Proofs.aj.aC Go.Proofs.aj.aT Go.Proofs.aj.aV Go.Y.Given Go.Y.PRd
attribute [local go_sem] dK dN dY dX dB dA dL dM
def dV.l0 : Nat → List (S28) → List (S28) → Int → Option ((List (S28)))
 | 0, _, _, _ => none
 | k + 1, x0, x3, x4 => if x4 < (x0.length : Int) then (if 0 ≤ x4 then ((aK.f k x3 ((ak x0 x4).f0) ((ak x0 x4).f1) ((ak x0 x4).f2) ((ak x0 x4).f3) ((ak x0 x4).f4)).bind fun t201 => (dV.l0 k x0 t201 (wrap64 (x4 + 1)))) else (none)) else (some x3)
def dV.f (k : Nat) (l0 : List (S28)) : Option ((List (S28))) := dV.l0 k l0 ([] : List (S28)) 0
theorem dV.calls (k : Nat) (A0 : Option Addr) (c0 : Nat) (l0 : List (S28)) (r : List (S28)) (w : World) (hr0 : Kd.C k28 w A0 l0.length l0) (hc0 : l0.length ≤ c0) (h : dV.f k l0 = some r) :
    Calls Tryz.prog 15 #[.slice A0 l0.length c0] w fun e w' => ∃ v0_ : Value, e = .returned (v0_) ∧ Kd.R k28 28 w' w.heap.size (fun _ => True) v0_ r ∧ Below w.heap.size w w' := by
  have hu28 := Tryz.underlying28
  have HR0 := ah.mk hr0
  have HC0 := ah.mk hc0
  clear hr0 hc0
  have HB := ah.mk (Below.refl w.heap.size w)
  have H : (dV.l0 k l0 ([] : List (S28)) 0) = some r := h
  clear h
  have H' := ah.mk H
  clear H
  go_enter Tryz.func15, Tryz.ntmps15
  go_wp2
  go_loopg [3, 4] k (fun kq v3 v4 w' => ∃ (x3_1 : List (S28)) (x4_1 : Int), v4 = .int .i64 x4_1 ∧ ah (dV.l0 kq l0 x3_1 x4_1 = some r) ∧ ah (kq ≤ k) ∧ ah (Kd.R k28 28 w' w.heap.size (fun _ => True) v3 x3_1) ∧ ah (Below w.heap.size w w'))
  case atStart => exact ⟨(([] : List (S28))), (0), (by rfl), H', ⟨Nat.le_refl _⟩, ⟨by (exact Kd.fI _ _ _ _ _)⟩, ⟨HB.out⟩⟩
  case round =>
   clear H'
   obtain ⟨x3_1, x4_1, rfl, HA, HK1, HO_3, HB⟩ := hrel
   cases gk with
   | zero => exact absurd HA.out (by simp [dV.l0])
   | succ k1 =>
    have H := HA.out
    clear HA
    simp only [dV.l0] at H
    by_cases c2 : x4_1 < (l0.length : Int)
    ·rw [if_pos c2] at H
     have c2b0 : decide (x4_1 < (l0.length : Int)) = true := decide_eq_true c2
     clear c2
     obtain ⟨c3b0, H⟩ := eU H
     obtain ⟨t201, A4, H⟩ := bZ H
     have H' := ah.mk H
     clear H
     have p200 : 0 ≤ (x4_1 : Int) := of_decide_eq_true (by assumption)
     have q200 : x4_1 < (l0.length : Int) := of_decide_eq_true (by assumption)
     obtain ⟨ad200, e200, hx200_0, hx200_1, hx200_2, hx200_3, hx200_4⟩ := eX HR0.out x4_1 p200 q200
     cases e200
     replace hx200_0 := kp_ HB.out hx200_0
     replace hx200_1 := kp_ HB.out hx200_1
     replace hx200_2 := kp_ HB.out hx200_2
     replace hx200_3 := kp_ HB.out hx200_3
     replace hx200_4 := kp_ HB.out hx200_4
     replace p200 := eq_true p200
     replace q200 := eq_true q200
     obtain ⟨Ao5, co5, eo5⟩ := Kd.dn HO_3.out
     subst eo5
     go_wp2_with (((refine gl_ (some 16) Tryz.func41 #[.slice Ao5 x3_1.length co5, .agg #[.string ((ak l0 x4_1).f0), .int .i64 ((ak l0 x4_1).f1), .int .i64 ((ak l0 x4_1).f2), .int .i64 ((ak l0 x4_1).f3), .string ((ak l0 x4_1).f4)]] ?_; (with_reducible refine (aK.calls k1 _ _ x3_1 ((ak l0 x4_1).f0) ((ak l0 x4_1).f1) ((ak l0 x4_1).f2) ((ak l0 x4_1).f3) ((ak l0 x4_1).f4) t201 _ ?side1 ?side2 A4.out).mono ?_); (case side1 => exact (Kd.aZ HO_3.out).2.2); (case side2 => exact (Kd.aZ HO_3.out).2.1); rintro e w6 ⟨v202, rfl, ho0, hb⟩; refine ⟨_, rfl, ?_⟩; have HO203 := ah.mk (Kd.bV (Kd.jo ho0 (Kd.jS (by ((exact HO_3.out))))) (av HB.out)); replace HO_3 := ah.mk (Kd.iy (by ((exact HO_3.out))) (Kd.jk ho0) hb); replace HB := ah.mk (au HB.out hb); (try clear hb); (try clear ho0))))
     go_roundg k1
     case measure => have := HK1.out; omega
     case rel => exact ⟨(t201), (wrap64 (x4_1 + 1)), (by rfl), H', ⟨by have := HK1.out; omega⟩, ⟨by (with_reducible repeat ((apply Kd.aW))); exact Kd.dD HO203.out (fun _ hk => trivial)⟩, ⟨HB.out⟩⟩
    ·rw [if_neg c2] at H
     have c2b0 : decide (x4_1 < (l0.length : Int)) = false := decide_eq_false c2
     clear c2
     obtain rfl := Option.some.inj H
     go_wp2
     go_ret
     exact ⟨_, by rfl, by (with_reducible repeat ((apply Kd.aW))); exact HO_3.out, HB.out⟩
def bR.l0 : Nat → List (S28) → ByteArray → List (S28) → Int → Option ((List (S28)))
 | 0, _, _, _, _ => none
 | k + 1, x0, x1, x5, x6 => if x6 < (x0.length : Int) then (if 0 ≤ x6 then ((dF.f k ((ak x0 x6).f0) x1).bind fun t205 => (if t205 = true then (if x5.length < 2513169434916 then (bR.l0 k x0 x1 (x5 ++ [(⟨(ak x0 x6).f0, (ak x0 x6).f1, (ak x0 x6).f2, (ak x0 x6).f3, (ak x0 x6).f4⟩ : S28)]) (wrap64 (x6 + 1))) else (none)) else (bR.l0 k x0 x1 x5 (wrap64 (x6 + 1))))) else (none)) else (some x5)
def bR.f (k : Nat) (l0 : List (S28)) (a1 : ByteArray) : Option ((List (S28))) := bR.l0 k l0 a1 ([] : List (S28)) 0
theorem bR.calls (k : Nat) (A0 : Option Addr) (c0 : Nat) (l0 : List (S28)) (a1 : ByteArray) (r : List (S28)) (w : World) (hr0 : Kd.C k28 w A0 l0.length l0) (hc0 : l0.length ≤ c0) (h : bR.f k l0 a1 = some r) :
    Calls Tryz.prog 95 #[.slice A0 l0.length c0, .string a1] w fun e w' => ∃ v0_ : Value, e = .returned (v0_) ∧ Kd.R k28 28 w' w.heap.size (fun _ => True) v0_ r ∧ Below w.heap.size w w' := by
  have hu28 := Tryz.underlying28
  have HR0 := ah.mk hr0
  have HC0 := ah.mk hc0
  clear hr0 hc0
  have HB := ah.mk (Below.refl w.heap.size w)
  have H : (bR.l0 k l0 a1 ([] : List (S28)) 0) = some r := h
  clear h
  have H' := ah.mk H
  clear H
  go_enter Tryz.func95, Tryz.ntmps95
  go_wp2
  go_loopg [5, 6] k (fun kq v5 v6 w' => ∃ (x5_1 : List (S28)) (x6_1 : Int), v6 = .int .i64 x6_1 ∧ ah (bR.l0 kq l0 a1 x5_1 x6_1 = some r) ∧ ah (kq ≤ k) ∧ ah (Kd.R k28 28 w' w.heap.size (fun _ => True) v5 x5_1) ∧ ah (Below w.heap.size w w'))
  case atStart => exact ⟨(([] : List (S28))), (0), (by rfl), H', ⟨Nat.le_refl _⟩, ⟨by (exact Kd.fI _ _ _ _ _)⟩, ⟨HB.out⟩⟩
  case round =>
   clear H'
   obtain ⟨x5_1, x6_1, rfl, HA, HK1, HO_5, HB⟩ := hrel
   cases gk with
   | zero => exact absurd HA.out (by simp [bR.l0])
   | succ k1 =>
    have H := HA.out
    clear HA
    simp only [bR.l0] at H
    by_cases c3 : x6_1 < (l0.length : Int)
    ·rw [if_pos c3] at H
     have c3b0 : decide (x6_1 < (l0.length : Int)) = true := decide_eq_true c3
     clear c3
     obtain ⟨c4b0, H⟩ := eU H
     obtain ⟨t205, A5, H⟩ := bZ H
     by_cases c6 : t205 = true
     focus
      subst c6
      rw [if_pos rfl] at H
      obtain ⟨c7, H⟩ := gd_ H
      have LMc7 := ah.mk c7
      clear c7
      obtain ⟨y207, hy207⟩ : ∃ y_ : List (S28), y_ = (x5_1 ++ [(⟨(ak l0 x6_1).f0, (ak l0 x6_1).f1, (ak l0 x6_1).f2, (ak l0 x6_1).f3, (ak l0 x6_1).f4⟩ : S28)]) := ⟨_, rfl⟩
      replace H : (bR.l0 k1 l0 a1 y207 (wrap64 (x6_1 + 1))) = some r := by (rw [hy207]; with_reducible exact H)
      have Ny207 := ah.mk hy207
      clear hy207
     rotate_left
     focus
      replace c6 := Bool.eq_false_iff.mpr c6
      subst c6
      rw [if_neg ff_] at H
     rotate_left
     all_goals
      have H' := ah.mk H
      clear H
      have p204 : 0 ≤ (x6_1 : Int) := of_decide_eq_true (by assumption)
      have q204 : x6_1 < (l0.length : Int) := of_decide_eq_true (by assumption)
      obtain ⟨ad204, e204, hx204_0, hx204_1, hx204_2, hx204_3, hx204_4⟩ := eX HR0.out x6_1 p204 q204
      cases e204
      replace hx204_0 := kp_ HB.out hx204_0
      replace hx204_1 := kp_ HB.out hx204_1
      replace hx204_2 := kp_ HB.out hx204_2
      replace hx204_3 := kp_ HB.out hx204_3
      replace hx204_4 := kp_ HB.out hx204_4
      replace p204 := eq_true p204
      replace q204 := eq_true q204
     ·go_wp2_with (first | (refine gl_ (some 19) Tryz.func94 #[.string ((ak l0 x6_1).f0), .string a1] ?_; (with_reducible refine (dF.calls k1 ((ak l0 x6_1).f0) a1 _ _ A5.out).mono ?_); rintro e w8 ⟨rfl, hb⟩; refine ⟨_, rfl, ?_⟩; replace HO_5 := ah.mk (Kd.bS (by ((exact HO_5.out))) hb); replace HB := ah.mk (au HB.out hb); (try clear hb); have p206 : 0 ≤ (x6_1 : Int) := of_decide_eq_true (by assumption); have q206 : x6_1 < (l0.length : Int) := of_decide_eq_true (by assumption); obtain ⟨ad206, e206, hx206_0, hx206_1, hx206_2, hx206_3, hx206_4⟩ := eX HR0.out x6_1 p206 q206; obtain rfl : ad204 = ad206 := (by injection e206); replace hx206_0 := kp_ HB.out hx206_0; replace hx206_1 := kp_ HB.out hx206_1; replace hx206_2 := kp_ HB.out hx206_2; replace hx206_3 := kp_ HB.out hx206_3; replace hx206_4 := kp_ HB.out hx206_4; replace p206 := eq_true p206; replace q206 := eq_true q206) | ((with_reducible refine dR (b := .append) (xs := #[.tmp 20, .tmp 25]) rfl ?_); at_builtin; refine Kd.fF k28 (w0 := w) w.heap.size rfl (.tmp 20) (.tmp 25) 22 28 (.agg #[(.string ⟨#[]⟩), (.int .i64 0), (.int .i64 0), (.int .i64 0), (.string ⟨#[]⟩)]) 56 rfl Tryz.underlying22 nA rfl (by decide) (by omega) u5 x5_1 (⟨(ak l0 x6_1).f0, (ak l0 x6_1).f1, (ak l0 x6_1).f2, (ak l0 x6_1).f3, (ak l0 x6_1).f4⟩ : S28) [.string ((ak l0 x6_1).f0), .int .i64 ((ak l0 x6_1).f1), .int .i64 ((ak l0 x6_1).f2), .int .i64 ((ak l0 x6_1).f3), .string ((ak l0 x6_1).f4)] (fun _ => True) (fun _ => False) rfl rfl ?aP (fun _ hk => hk.elim) ?aF ?aO ?aB ?aS ?aL ?_; (case aP => exact jF _ _ _ (⟨(ak l0 x6_1).f0, (ak l0 x6_1).f1, (ak l0 x6_1).f2, (ak l0 x6_1).f3, (ak l0 x6_1).f4⟩ : S28)); (case aB => exact HB.out); (case aF => exact (fun _ _ => trivial)); (case aO => exact (by ((exact HO_5.out)))); (case aS => exact (av HB.out)); (case aL => have := LMc7.out; omega); intro v208 w9 ho hb hg hat; rw [← Ny207.out] at ho; have n0_ := ah.mk (hb); have n1_ := ah.mk (ho); clear HB; clear HO_5; have HB := n0_; have HO209 := n1_; clear n0_ n1_; clear ho hb hg hat))
      go_roundg k1
      case measure => have := HK1.out; omega
      case rel => exact ⟨(y207), (wrap64 (x6_1 + 1)), (by rfl), H', ⟨by have := HK1.out; omega⟩, ⟨by (with_reducible repeat ((apply Kd.aW))); exact HO209.out⟩, ⟨HB.out⟩⟩
     ·go_wp2_with (((refine gl_ (some 19) Tryz.func94 #[.string ((ak l0 x6_1).f0), .string a1] ?_; (with_reducible refine (dF.calls k1 ((ak l0 x6_1).f0) a1 _ _ A5.out).mono ?_); rintro e w10 ⟨rfl, hb⟩; refine ⟨_, rfl, ?_⟩; replace HO_5 := ah.mk (Kd.bS (by ((exact HO_5.out))) hb); replace HB := ah.mk (au HB.out hb); (try clear hb))))
      go_roundg k1
      case measure => have := HK1.out; omega
      case rel => exact ⟨(x5_1), (wrap64 (x6_1 + 1)), (by rfl), H', ⟨by have := HK1.out; omega⟩, ⟨by (with_reducible repeat ((apply Kd.aW))); exact HO_5.out⟩, ⟨HB.out⟩⟩
    ·rw [if_neg c3] at H
     have c3b0 : decide (x6_1 < (l0.length : Int)) = false := decide_eq_false c3
     clear c3
     obtain rfl := Option.some.inj H
     go_wp2
     go_ret
     exact ⟨_, by rfl, by (with_reducible repeat ((apply Kd.aW))); exact HO_5.out, HB.out⟩
def bM.l0 : Nat → List (S28) → Int → List (S28) → Int → Option ((List (S28)))
 | 0, _, _, _, _ => none
 | k + 1, x0, x1, x5, x6 => if x6 < (x0.length : Int) then (if 0 ≤ x6 then (if ((ak x0 x6).f1) = x1 then (if x5.length < 2513169434916 then (bM.l0 k x0 x1 (x5 ++ [(⟨(ak x0 x6).f0, (ak x0 x6).f1, (ak x0 x6).f2, (ak x0 x6).f3, (ak x0 x6).f4⟩ : S28)]) (wrap64 (x6 + 1))) else (none)) else (bM.l0 k x0 x1 x5 (wrap64 (x6 + 1)))) else (none)) else (some x5)
def bM.f (k : Nat) (l0 : List (S28)) (a1 : Int) : Option ((List (S28))) := bM.l0 k l0 a1 ([] : List (S28)) 0
theorem bM.calls (k : Nat) (A0 : Option Addr) (c0 : Nat) (l0 : List (S28)) (a1 : Int) (r : List (S28)) (w : World) (hr0 : Kd.C k28 w A0 l0.length l0) (hc0 : l0.length ≤ c0) (h : bM.f k l0 a1 = some r) :
    Calls Tryz.prog 96 #[.slice A0 l0.length c0, .int .i64 a1] w fun e w' => ∃ v0_ : Value, e = .returned (v0_) ∧ Kd.R k28 28 w' w.heap.size (fun _ => True) v0_ r ∧ Below w.heap.size w w' := by
  have hu28 := Tryz.underlying28
  have HR0 := ah.mk hr0
  have HC0 := ah.mk hc0
  clear hr0 hc0
  have HB := ah.mk (Below.refl w.heap.size w)
  have H : (bM.l0 k l0 a1 ([] : List (S28)) 0) = some r := h
  clear h
  have H' := ah.mk H
  clear H
  go_enter Tryz.func96, Tryz.ntmps96
  go_wp2
  go_loopg [5, 6] k (fun kq v5 v6 w' => ∃ (x5_1 : List (S28)) (x6_1 : Int), v6 = .int .i64 x6_1 ∧ ah (bM.l0 kq l0 a1 x5_1 x6_1 = some r) ∧ ah (kq ≤ k) ∧ ah (Kd.R k28 28 w' w.heap.size (fun _ => True) v5 x5_1) ∧ ah (Below w.heap.size w w'))
  case atStart => exact ⟨(([] : List (S28))), (0), (by rfl), H', ⟨Nat.le_refl _⟩, ⟨by (exact Kd.fI _ _ _ _ _)⟩, ⟨HB.out⟩⟩
  case round =>
   clear H'
   obtain ⟨x5_1, x6_1, rfl, HA, HK1, HO_5, HB⟩ := hrel
   cases gk with
   | zero => exact absurd HA.out (by simp [bM.l0])
   | succ k1 =>
    have H := HA.out
    clear HA
    simp only [bM.l0] at H
    by_cases c3 : x6_1 < (l0.length : Int)
    ·rw [if_pos c3] at H
     have c3b0 : decide (x6_1 < (l0.length : Int)) = true := decide_eq_true c3
     clear c3
     obtain ⟨c4b0, H⟩ := eU H
     by_cases c5 : ((ak l0 x6_1).f1) = a1
     focus
      rw [if_pos c5] at H
      have c5b0 : (((ak l0 x6_1).f1) == a1) = true := beq_iff_eq.mpr c5
      have c5b1 : (((ak l0 x6_1).f1) != a1) = false := bne_eq_false_iff_eq.mpr c5
      clear c5
      obtain ⟨c6, H⟩ := gd_ H
      have LMc6 := ah.mk c6
      clear c6
      obtain ⟨y212, hy212⟩ : ∃ y_ : List (S28), y_ = (x5_1 ++ [(⟨(ak l0 x6_1).f0, (ak l0 x6_1).f1, (ak l0 x6_1).f2, (ak l0 x6_1).f3, (ak l0 x6_1).f4⟩ : S28)]) := ⟨_, rfl⟩
      replace H : (bM.l0 k1 l0 a1 y212 (wrap64 (x6_1 + 1))) = some r := by (rw [hy212]; with_reducible exact H)
      have Ny212 := ah.mk hy212
      clear hy212
     rotate_left
     focus
      rw [if_neg c5] at H
      have c5b0 : (((ak l0 x6_1).f1) == a1) = false := beq_eq_false_iff_ne.mpr c5
      have c5b1 : (((ak l0 x6_1).f1) != a1) = true := bne_iff_ne.mpr c5
     rotate_left
     all_goals
      have H' := ah.mk H
      clear H
      have p210 : 0 ≤ (x6_1 : Int) := of_decide_eq_true (by assumption)
      have q210 : x6_1 < (l0.length : Int) := of_decide_eq_true (by assumption)
      obtain ⟨ad210, e210, hx210_0, hx210_1, hx210_2, hx210_3, hx210_4⟩ := eX HR0.out x6_1 p210 q210
      cases e210
      replace hx210_0 := kp_ HB.out hx210_0
      replace hx210_1 := kp_ HB.out hx210_1
      replace hx210_2 := kp_ HB.out hx210_2
      replace hx210_3 := kp_ HB.out hx210_3
      replace hx210_4 := kp_ HB.out hx210_4
      replace p210 := eq_true p210
      replace q210 := eq_true q210
     ·have p211 : 0 ≤ (x6_1 : Int) := of_decide_eq_true (by assumption)
      have q211 : x6_1 < (l0.length : Int) := of_decide_eq_true (by assumption)
      obtain ⟨ad211, e211, hx211_0, hx211_1, hx211_2, hx211_3, hx211_4⟩ := eX HR0.out x6_1 p211 q211
      obtain rfl : ad210 = ad211 := (by injection e211)
      replace hx211_0 := kp_ HB.out hx211_0
      replace hx211_1 := kp_ HB.out hx211_1
      replace hx211_2 := kp_ HB.out hx211_2
      replace hx211_3 := kp_ HB.out hx211_3
      replace hx211_4 := kp_ HB.out hx211_4
      replace p211 := eq_true p211
      replace q211 := eq_true q211
      go_wp2_with ((((with_reducible refine dR (b := .append) (xs := #[.tmp 20, .tmp 25]) rfl ?_); at_builtin; refine Kd.fF k28 (w0 := w) w.heap.size rfl (.tmp 20) (.tmp 25) 22 28 (.agg #[(.string ⟨#[]⟩), (.int .i64 0), (.int .i64 0), (.int .i64 0), (.string ⟨#[]⟩)]) 56 rfl Tryz.underlying22 nA rfl (by decide) (by omega) u5 x5_1 (⟨(ak l0 x6_1).f0, (ak l0 x6_1).f1, (ak l0 x6_1).f2, (ak l0 x6_1).f3, (ak l0 x6_1).f4⟩ : S28) [.string ((ak l0 x6_1).f0), .int .i64 ((ak l0 x6_1).f1), .int .i64 ((ak l0 x6_1).f2), .int .i64 ((ak l0 x6_1).f3), .string ((ak l0 x6_1).f4)] (fun _ => True) (fun _ => False) rfl rfl ?aP (fun _ hk => hk.elim) ?aF ?aO ?aB ?aS ?aL ?_; (case aP => exact jF _ _ _ (⟨(ak l0 x6_1).f0, (ak l0 x6_1).f1, (ak l0 x6_1).f2, (ak l0 x6_1).f3, (ak l0 x6_1).f4⟩ : S28)); (case aB => exact HB.out); (case aF => exact (fun _ _ => trivial)); (case aO => exact (by ((exact HO_5.out)))); (case aS => exact (av HB.out)); (case aL => have := LMc6.out; omega); intro v213 w7 ho hb hg hat; rw [← Ny212.out] at ho; have n0_ := ah.mk (hb); have n1_ := ah.mk (ho); clear HB; clear HO_5; have HB := n0_; have HO214 := n1_; clear n0_ n1_; clear ho hb hg hat)))
      go_roundg k1
      case measure => have := HK1.out; omega
      case rel => exact ⟨(y212), (wrap64 (x6_1 + 1)), (by rfl), H', ⟨by have := HK1.out; omega⟩, ⟨by (with_reducible repeat ((apply Kd.aW))); exact HO214.out⟩, ⟨HB.out⟩⟩
     ·go_wp2
      go_roundg k1
      case measure => have := HK1.out; omega
      case rel => exact ⟨(x5_1), (wrap64 (x6_1 + 1)), (by rfl), H', ⟨by have := HK1.out; omega⟩, ⟨by (with_reducible repeat ((apply Kd.aW))); exact HO_5.out⟩, ⟨HB.out⟩⟩
    ·rw [if_neg c3] at H
     have c3b0 : decide (x6_1 < (l0.length : Int)) = false := decide_eq_false c3
     clear c3
     obtain rfl := Option.some.inj H
     go_wp2
     go_ret
     exact ⟨_, by rfl, by (with_reducible repeat ((apply Kd.aW))); exact HO_5.out, HB.out⟩
end Go.Y.PRr
namespace Go.Y.Rrs
open Go.Proofs.aj.aC Go.Proofs.aj.aT Go.Proofs.aj.aV Go.Y.Given Go.Y.PRd Go.Y.PRr Go.Y.Oct Go.Y.Name Go.Y.Cmp Go.Y.fq Go.Y.eD Go.Y.dJ
def rcO (k : Nat) (x y : RR) : Option Int := bN.f k x.f0 x.f1 x.f2 x.f3 x.f4 y.f0 y.f1 y.f2 y.f3 y.f4
theorem Ca (x y : RR) (hx : fine x) (hy : fine y) : Ev (fun k => rcO k x y) (bG x y) := ⟨FU + 4000, fun k hk => Ki x y hx.1 hy.1 hx.2 hy.2 k hk⟩
theorem JM (c : Int) (d : ByteArray) : gN.f c d.toList.isEmpty = some (mZ c d) := by
 unfold gN.f mZ
 repeat' split
 all_goals rfl
theorem CV (t : Int) (d : ByteArray) (h : d.size ≤ 1000000) : Ev (fun k => dU.f k t d) (jB t d) := ⟨FU + 2000, fun k hk => vG t d h k hk⟩
theorem vR (n : ByteArray) : Ev (fun k => bL.f k n) (bE n) := ⟨600, fun k hk => nK n k hk⟩
theorem Bu (b : Bool) (x : RR) (h : b = false → x.f4.size ≤ 1000000) : Ev (fun k => bf.j0 k b x.f0 x.f1 x.f2 x.f3 x.f4) (!b && (!mZ x.f2 x.f4 || jB x.f1 x.f4)) := by
 have hs : ∀ k, bf.j0 (k + 1) b x.f0 x.f1 x.f2 x.f3 x.f4 = if b = true then some false else (gN.f x.f2 x.f4.toList.isEmpty).bind fun t => if t = true then (dU.f k x.f1 x.f4).bind fun u => some u else some true := fun k => by
  simp only [bf.j0]
 refine Ev.step hs ?_
 cases b
 ·simp only [JM, Option.bind_some, Bool.false_eq_true, if_false]
  cases ht : mZ x.f2 x.f4
  ·simp only [Bool.false_eq_true, if_false]
   exact Ev.now _
  ·simp only [if_true]
   refine Ev.bind (CV _ _ (h rfl)) ?_
   exact Ev.now _
 ·simp only [if_true]
  exact Ev.now _
theorem rV (x : RR) : Ev (fun k => bf.f k x.f0 x.f1 x.f2 x.f3 x.f4) (fT x) := by
 have hs : ∀ k, bf.f k x.f0 x.f1 x.f2 x.f3 x.f4 = (bL.f k x.f0).bind fun t => bf.j0 k (!(t && (decide (0 ≤ x.f1) && (decide (x.f1 ≤ 65535) && (decide (0 ≤ x.f2) && (decide (x.f2 ≤ 65535) && (decide (0 ≤ x.f3) && (decide (x.f3 ≤ 2147483647) && decide (x.f4.size ≤ 65535))))))))) x.f0 x.f1 x.f2 x.f3 x.f4 := fun k => by
  unfold bf.f
  congr 1
  funext t
  by_cases h1 : x.f1 < 0
  ·simp [h1, show ¬ (0 ≤ x.f1) by omega]
  by_cases h2 : x.f1 > 65535
  ·simp [h1, h2, show ¬ (x.f1 ≤ 65535) by omega]
  by_cases h3 : x.f2 < 0
  ·simp [h1, h2, h3, show ¬ (0 ≤ x.f2) by omega]
  by_cases h4 : x.f2 > 65535
  ·simp [h1, h2, h3, h4, show ¬ (x.f2 ≤ 65535) by omega]
  by_cases h5 : x.f3 < 0
  ·simp [h1, h2, h3, h4, h5, show ¬ (0 ≤ x.f3) by omega]
  by_cases h6 : x.f3 > 2147483647
  ·simp [h1, h2, h3, h4, h5, h6, show ¬ (x.f3 ≤ 2147483647) by omega]
  have e7 : decide ((x.f4.size : Int) > 65535) = !decide (x.f4.size ≤ 65535) := by
   by_cases h7 : x.f4.size ≤ 65535
   ·rw [decide_eq_true h7, decide_eq_false (by omega)]; rfl
   ·rw [decide_eq_false h7, decide_eq_true (by omega)]; rfl
  rw [if_neg h1, if_neg h2, if_neg h3, if_neg h4, if_neg h5, if_neg h6, e7]
  cases t
  ·simp
  ·simp [show 0 ≤ x.f1 by omega, show x.f1 ≤ 65535 by omega, show 0 ≤ x.f2 by omega, show x.f2 ≤ 65535 by omega, show 0 ≤ x.f3 by omega, show x.f3 ≤ 2147483647 by omega]
 refine Ev.congr hs (Ev.bind (vR x.f0) ?_)
 refine (?_ : (!(!(bE x.f0 && _)) && _) = fT x) ▸ Bu _ x ?_
 ·unfold fT
  simp only [Bool.not_not, Bool.and_assoc]
 ·intro h
  simp only [Bool.not_eq_false', Bool.and_eq_true, decide_eq_true_eq] at h
  omega
end Go.Y.Rrs
namespace Go.Y.Rrs
open Go.Proofs.aj.aC Go.Proofs.aj.aT Go.Proofs.aj.aV Go.Y.Given Go.Y.PRd Go.Y.PRr Go.Y.Oct Go.Y.Name Go.Y.Cmp Go.Y.fq Go.Y.eD Go.Y.dJ
structure lD (l : List RR) : Prop where
 all : ∀ y ∈ l, fine y
 len : l.length ≤ 1000000
 set : iB bG l
theorem zC (l : List RR) (x : RR) (hl : ∀ y ∈ l, fine y) (hx : fine x) (hn : l.length ≤ 1000000) : ∀ (d i : Nat) (out : List RR), l.length ≤ i + d → out.length ≤ i + 1 → (∀ y ∈ l.drop i, bG x y < 0) → Ev (fun k => aK.l0 k l out true (i : Int) x.f0 x.f1 x.f2 x.f3 x.f4) (out ++ l.drop i) := by
 intro d
 induction d with
 | zero =>
  intro i out hd _ _
  refine Ev.step (f := fun _ => some out) (fun k => by rw [aK.l0]; rw [if_neg (by omega), if_pos rfl]) ?_
  rw [List.drop_of_length_le (by omega), List.append_nil]
  exact Ev.now _
 | succ d ih =>
  intro i out hd ho hlt
  by_cases hi : i < l.length
  ·have e1 : wrap64 ((i : Int) + 1) = ((i + 1 : Nat) : Int) := by unfold wrap64; omega
   have hr := fB l i hi
   have h0 : bG x l[i] < 0 := hlt _ (by rw [List.drop_eq_getElem_cons hi]; exact List.mem_cons_self ..)
   have hs : ∀ k, aK.l0 (k + 1) l out true (i : Int) x.f0 x.f1 x.f2 x.f3 x.f4 = (rcO k x (rdR l (i : Int))).bind fun t => if t ≤ 0 then aK.j1 k l out true (i : Int) t false x.f0 x.f1 x.f2 x.f3 x.f4 else aK.j1 k l out true (i : Int) t false x.f0 x.f1 x.f2 x.f3 x.f4 := fun k => by
    rw [aK.l0]
    rw [if_pos (by omega), if_pos (by omega)]
    all_goals rfl
   rw [hr] at hs
   refine Ev.step hs (Ev.bind (Ca _ _ hx (hl _ (List.getElem_mem _))) ?_)
   simp only [show bG x l[i] ≤ 0 from by omega, if_true]
   have hj : ∀ k, aK.j1 (k + 1) l out true (i : Int) (bG x l[i]) false x.f0 x.f1 x.f2 x.f3 x.f4 = aK.l0 k l (out ++ [rdR l (i : Int)]) true ((i + 1 : Nat) : Int) x.f0 x.f1 x.f2 x.f3 x.f4 := fun k => by
    rw [aK.j1, e1]
    rw [if_neg (by decide), if_neg (by omega), if_pos (by omega), if_pos (by omega), if_pos (by omega)]
    all_goals rfl
   rw [hr] at hj
   refine Ev.step hj ?_
   rw [List.drop_eq_getElem_cons hi, show out ++ l[i] :: l.drop (i + 1) = (out ++ [l[i]]) ++ l.drop (i + 1) from by simp]
   refine ih (i + 1) _ (by omega) (by rw [List.length_append, List.length_singleton]; omega) (fun y hy => hlt y ?_)
   rw [List.drop_eq_getElem_cons hi]; exact List.mem_cons_of_mem _ hy
  ·refine Ev.step (f := fun _ => some out) (fun k => by rw [aK.l0]; rw [if_neg (by omega), if_pos rfl]) ?_
   rw [List.drop_of_length_le (by omega), List.append_nil]
   exact Ev.now _
theorem Ie (l : List RR) (x : RR) (h : lD l) (hx : fine x) : ∀ (d i : Nat) (out : List RR), l.length ≤ i + d → i ≤ l.length → out.length ≤ i → Ev (fun k => aK.l0 k l out false (i : Int) x.f0 x.f1 x.f2 x.f3 x.f4) (out ++ put bG (l.drop i) x) := by
 have hn := h.len
 have hend : ∀ (i : Nat) (out : List RR), l.length ≤ i → out.length ≤ 1000001 → Ev (fun k => aK.l0 k l out false (i : Int) x.f0 x.f1 x.f2 x.f3 x.f4) (out ++ put bG (l.drop i) x) := by
  intro i out hd ho
  refine Ev.step (f := fun _ => some (out ++ [x])) (fun k => by rw [aK.l0]; rw [if_neg (by omega), if_neg (by decide), if_pos (by omega)]) ?_
  rw [List.drop_of_length_le hd, put]
  exact Ev.now _
 intro d
 induction d with
 | zero => exact fun i out hd hi0 ho => hend i out (by omega) (by omega)
 | succ d ih =>
  intro i out hd hi0 ho
  by_cases hi : i < l.length
  ·have e1 : wrap64 ((i : Int) + 1) = ((i + 1 : Nat) : Int) := by unfold wrap64; omega
   have hr := fB l i hi
   have hset : iB bG (l[i] :: l.drop (i + 1)) := by rw [← List.drop_eq_getElem_cons hi]; exact h.set.sublist (List.drop_sublist _ _)
   have hab := (List.pairwise_cons.mp hset).1
   have hs : ∀ k, aK.l0 (k + 1) l out false (i : Int) x.f0 x.f1 x.f2 x.f3 x.f4 = (rcO k x (rdR l (i : Int))).bind fun t => if t ≤ 0 then aK.j1 k l out false (i : Int) t true x.f0 x.f1 x.f2 x.f3 x.f4 else aK.j1 k l out false (i : Int) t false x.f0 x.f1 x.f2 x.f3 x.f4 := fun k => by
    rw [aK.l0]
    rw [if_pos (by omega), if_pos (by omega)]
    all_goals rfl
   rw [hr] at hs
   refine Ev.step hs (Ev.bind (Ca _ _ hx (h.all _ (List.getElem_mem _))) ?_)
   rw [List.drop_eq_getElem_cons hi, put]
   by_cases hlt : bG x l[i] < 0
   ·rw [if_pos hlt]
    simp only [show bG x l[i] ≤ 0 from by omega, if_true]
    have hj : ∀ k, aK.j1 (k + 1) l out false (i : Int) (bG x l[i]) true x.f0 x.f1 x.f2 x.f3 x.f4 = aK.l0 k l ((out ++ [x]) ++ [rdR l (i : Int)]) true ((i + 1 : Nat) : Int) x.f0 x.f1 x.f2 x.f3 x.f4 := fun k => by
     rw [aK.j1, e1]
     rw [if_pos rfl, if_pos (by omega), Option.bind_some, if_neg (by omega), if_pos (by omega), if_pos (by omega), if_pos (by rw [List.length_append, List.length_singleton]; omega)]
     all_goals rfl
    rw [hr] at hj
    refine Ev.step hj ?_
    rw [show out ++ x :: l[i] :: l.drop (i + 1) = (out ++ [x] ++ [l[i]]) ++ l.drop (i + 1) from by simp]
    exact zC l x h.all hx hn d (i + 1) _ (by omega) (by simp only [List.length_append, List.length_singleton]; omega) (fun y hy => jA.trans x _ y hlt (hab y hy))
   ·rw [if_neg hlt]
    by_cases h0 : bG x l[i] = 0
    ·rw [if_pos h0]
     simp only [show bG x l[i] ≤ 0 from by omega, if_true]
     have hj : ∀ k, aK.j1 (k + 1) l out false (i : Int) (bG x l[i]) true x.f0 x.f1 x.f2 x.f3 x.f4 = aK.l0 k l (out ++ [x]) true ((i + 1 : Nat) : Int) x.f0 x.f1 x.f2 x.f3 x.f4 := fun k => by
      rw [aK.j1, e1]
      rw [if_pos rfl, if_pos (by omega), Option.bind_some, if_pos h0]
     refine Ev.step hj ?_
     rw [show out ++ x :: l.drop (i + 1) = (out ++ [x]) ++ l.drop (i + 1) from by simp]
     exact zC l x h.all hx hn d (i + 1) _ (by omega) (by simp only [List.length_append, List.length_singleton]; omega) (fun y hy => jA.lt_of_eq_of_lt h0 (hab y hy))
    ·rw [if_neg h0]
     simp only [show ¬ bG x l[i] ≤ 0 from by omega, if_false]
     have hj : ∀ k, aK.j1 (k + 1) l out false (i : Int) (bG x l[i]) false x.f0 x.f1 x.f2 x.f3 x.f4 = aK.l0 k l (out ++ [rdR l (i : Int)]) false ((i + 1 : Nat) : Int) x.f0 x.f1 x.f2 x.f3 x.f4 := fun k => by
      rw [aK.j1, e1]
      rw [if_neg (by decide), if_neg h0, if_pos (by omega), if_pos (by omega), if_pos (by omega)]
      all_goals rfl
     rw [hr] at hj
     refine Ev.step hj ?_
     rw [show out ++ l[i] :: put bG (l.drop (i + 1)) x = (out ++ [l[i]]) ++ put bG (l.drop (i + 1)) x from by simp]
     exact ih (i + 1) _ (by omega) (by omega) (by simp only [List.length_append, List.length_singleton]; omega)
  ·exact hend i out (by omega) (by omega)
theorem Ld (l : List RR) (x : RR) (h : lD l) (hx : fine x) : Ev (fun k => aK.f k l x.f0 x.f1 x.f2 x.f3 x.f4) (put bG l x) := by
 have := Ie l x h hx l.length 0 [] (by omega) (Nat.zero_le _) (Nat.le_refl _)
 rw [List.drop_zero, List.nil_append] at this
 exact this
theorem lD.put {l : List RR} {x : RR} (h : lD l) (hx : fine x) (hn : l.length < 1000000) : lD (dJ.put bG l x) where
 all y hy := by
  rcases oM hy with rfl | hy
  ·exact hx
  ·exact h.all y hy
 len := by
  have h1 := wF jA h.set x
  have h2 : (drop bG l x).length ≤ l.length := by unfold drop; exact List.length_filter_le _ _
  omega
 set := oN jA h.set x
theorem Ch (l : List RR) (x : RR) (h : iB bG l) : (put bG l x).length ≤ l.length + 1 := by
 have h1 := wF jA h x
 have h2 : (drop bG l x).length ≤ l.length := by unfold drop; exact List.length_filter_le _ _
 omega
theorem JD (l : List RR) (hl : ∀ y ∈ l, fine y) (hn : l.length ≤ 100000) : ∀ (d i : Nat) (out : List RR), l.length ≤ i + d → i ≤ l.length → out.length ≤ i → lD out → Ev (fun k => dV.l0 k l out (i : Int)) ((l.drop i).foldl (put bG) out) := by
 intro d
 induction d with
 | zero =>
  intro i out hd hi0 _ _
  refine Ev.step (f := fun _ => some out) (fun k => by rw [dV.l0]; rw [if_neg (by omega)]) ?_
  rw [List.drop_of_length_le (by omega), List.foldl_nil]
  exact Ev.now _
 | succ d ih =>
  intro i out hd hi0 ho hs
  by_cases hi : i < l.length
  ·have e1 : wrap64 ((i : Int) + 1) = ((i + 1 : Nat) : Int) := by unfold wrap64; omega
   have hr := fB l i hi
   have hst : ∀ k, dV.l0 (k + 1) l out (i : Int) = (aK.f k out (rdR l (i : Int)).f0 (rdR l (i : Int)).f1 (rdR l (i : Int)).f2 (rdR l (i : Int)).f3 (rdR l (i : Int)).f4).bind fun t => dV.l0 k l t ((i + 1 : Nat) : Int) := fun k => by
    rw [dV.l0, e1]
    rw [if_pos (by omega), if_pos (by omega)]
   rw [hr] at hst
   have hf := hl _ (List.getElem_mem hi)
   refine Ev.step hst (Ev.bind (Ld out l[i] hs hf) ?_)
   rw [List.drop_eq_getElem_cons hi, List.foldl_cons]
   have := Ch out l[i] hs.set
   exact ih (i + 1) _ (by omega) (by omega) (by omega) (hs.put hf (by omega))
  ·refine Ev.step (f := fun _ => some out) (fun k => by rw [dV.l0]; rw [if_neg (by omega)]) ?_
   rw [List.drop_of_length_le (by omega), List.foldl_nil]
   exact Ev.now _
theorem LA (l : List RR) (hl : ∀ y ∈ l, fine y) (hn : l.length ≤ 100000) : Ev (fun k => dV.f k l) (ofL bG l) := by
 have := JD l hl hn l.length 0 [] (by omega) (Nat.zero_le _) (Nat.le_refl _) ⟨fun y hy => (by cases hy), Nat.zero_le _, List.Pairwise.nil⟩
 rw [List.drop_zero] at this
 exact this
theorem BS : ∀ (l s : List RR) {y : RR}, y ∈ l.foldl (put bG) s → y ∈ s ∨ y ∈ l := by
 intro l
 induction l with
 | nil => intro s y h; exact .inl h
 | cons a l ih =>
  intro s y h
  rcases ih _ h with h | h
  ·rcases oM h with rfl | h
   ·exact .inr (List.mem_cons_self ..)
   ·exact .inl h
  ·exact .inr (List.mem_cons_of_mem _ h)
theorem xQ : ∀ (l s : List RR), iB bG s → (l.foldl (put bG) s).length ≤ s.length + l.length := by
 intro l
 induction l with
 | nil => intro s _; exact Nat.le_refl _
 | cons a l ih =>
  intro s h
  have h1 := ih (put bG s a) (oN jA h a)
  have h2 := Ch s a h
  rw [List.foldl_cons, List.length_cons]; omega
theorem uO {l : List RR} (hl : ∀ y ∈ l, fine y) (hn : l.length ≤ 100000) : lD (ofL bG l) where
 all y hy := by
  rcases BS l [] hy with h | h
  ·cases h
  ·exact hl y h
 len := by have := xQ l [] List.Pairwise.nil; unfold ofL; simp only [List.length_nil] at this; omega
 set := qL jA l
end Go.Y.Rrs
namespace Go.Y.Given
open Go.Proofs.aj.aC Go.Proofs.aj.aT Go.Proofs.aj.aV Go.Y.PRd Go.Y.PRr Go.Y.Rrs
def slices_Clone.f (l0 : List (S28)) : Option (List (S28)) := if l0.length ≤ 1000000 then some l0 else none
theorem Dx {α : Type} (d : Kd α) {w : World} {g : Nat} {t : TypeId} {base : Nat} {ok : Nat → Prop} (hg : base ≤ g) (ho : ok g) (h : w.heap[g]? = some (.cells #[] t (0, 0))) : Kd.R d t w base ok (.slice (some ⟨g, 0, none⟩) 0 0) [] :=
 ⟨fun k hk => by simp [Value.ownBlock] at hk; subst hk; exact ho, [], ⟨by simp, .inr ⟨g, 0, #[], rfl, hg, h, Nat.le_refl _, Nat.zero_le _, by simp, by simp⟩⟩, bO.none _ _⟩
theorem slices_Clone.calls (A0 : Option Addr) (c0 : Nat) (l0 : List (S28)) (r : List (S28)) (w : World) (hr0 : Kd.C k28 w A0 l0.length l0) (hc0 : l0.length ≤ c0) (h : slices_Clone.f l0 = some r) :
  Calls Tryz.prog 36 #[.slice A0 l0.length c0] w fun e w' => ∃ v0_ : Value, e = .returned (v0_) ∧ Kd.R k28 28 w' w.heap.size (fun _ => True) v0_ r ∧ Below w.heap.size w w' := by
 unfold slices_Clone.f at h
 have hn : l0.length ≤ 1000000 := Classical.byContradiction fun hn => by rw [if_neg hn] at h; cases h
 rw [if_pos hn] at h
 injection h with h
 subst h
 have HR := Lib.hid hr0
 have hu41 := Tryz.underlying28
 have hu22 := Tryz.underlying22
 have q22 : ∀ (w : World) (a : Option Addr) (n c n' c' : Nat), (binOp .eql 22 (.slice a n c) (.slice none n' c')).run Tryz.prog w = .ok (.bool a.isNone) w := fun w a n c n' c' => Lib.run_eql_slice_nil w _ _ a n c n' c' hu22
 cases A0 with
 | none =>
  have hl : l0 = [] := List.eq_nil_of_length_eq_zero (Nat.eq_zero_of_not_pos fun hp => by
   obtain ⟨ad, h, _⟩ := hr0.2.2 hp
   cases h)
  subst hl
  clear hr0
  go_enter Tryz.func36, Tryz.ntmps36
  go_wp2_with fail
  go_ret
  exact ⟨_, rfl, Kd.fI _ _ _ _ _, Below.refl _ _⟩
 | some ad =>
  clear hr0
  have hB0 : Below w.heap.size w (w.alloc (.cells #[] 28)) := bq (Below.refl _ _) _
  have hM : Kd.R k28 28 (w.alloc (.cells #[] 28)) w.heap.size (fun _ => True) (.slice (some ⟨w.heap.size, 0, none⟩) 0 0) [] := Dx _ (Nat.le_refl _) trivial (by show (w.heap.push _)[w.heap.size]? = _; simp)
  have hC1 := Kd.fC HR.out hB0
  have HM := Lib.hid hM
  have HB0 := Lib.hid hB0
  have HC1 := Lib.hid hC1
  clear hB0 hM hC1
  go_enter Tryz.func36, Tryz.ntmps36
  go_wp2_with (at_builtin; go_loud (refine Kd.zo (w0 := w) k28 w.heap.size rfl _ _ 22 28 _ 56 rfl hu22 nA rfl (by decide) (by decide) _ [] l0 (some ad) l0.length c0 (fun _ => True) (fun _ => False) rfl rfl HM.out HC1.out (fun x cs h => by rw [zN h]; exact jF _ _ _ x) (fun k h => h.elim) (fun _ _ => trivial) HB0.out HB0.out.size (by simp; omega) ?_); intro v1 w1 hR1 hB1 hg1 hat1)
  go_ret
  exact ⟨_, rfl, hR1, hB1⟩
end Go.Y.Given
namespace Go.Y.Rrs
open Go.Proofs.aj.aC Go.Proofs.aj.aT Go.Proofs.aj.aV Go.Y.Given Go.Y.PRd Go.Y.PRr
abbrev tRR : Nat := 28
def lU (x : RR) : List Value := [.string x.f0, .int .i64 x.f1, .int .i64 x.f2, .int .i64 x.f3, .string x.f4]
def flat : List RR → List Value
 | [] => []
 | x :: l => lU x ++ flat l
theorem mH (x : RR) : (lU x).length = 5 := rfl
theorem iP : ∀ l, (flat l).length = l.length * 5
 | [] => rfl
 | x :: l => by rw [flat, List.length_append, iP l, mH, List.length_cons]; omega
theorem qw : ∀ a b, flat (a ++ b) = flat a ++ flat b
 | [], b => rfl
 | x :: a, b => by rw [List.cons_append, flat, flat, qw a b, List.append_assoc]
theorem Ga (l : List RR) (i : Nat) (hi : i ≤ l.length) : (flat l).take (i * 5) = flat (l.take i) := by
 conv => lhs; rw [← List.take_append_drop i l, qw]
 rw [List.take_append_of_le_length (by rw [iP, List.length_take]; omega), List.take_of_length_le (by rw [iP, List.length_take]; omega)]
theorem yX (l : List RR) (i : Nat) (hi : i ≤ l.length) : (flat l).drop (i * 5) = flat (l.drop i) := by
 conv => lhs; rw [← List.take_append_drop i l, qw]
 rw [List.drop_append_of_le_length (by rw [iP, List.length_take]; omega), List.drop_of_length_le (by rw [iP, List.length_take]; omega), List.nil_append]
theorem Ai : ∀ (l : List RR), ∀ v ∈ flat l, v.oneCell' = true
 | [], v, h => by cases h
 | x :: l, v, h => by
  rcases List.mem_append.1 h with h | h
  ·simp only [lU, List.mem_cons, List.not_mem_nil, or_false] at h
   rcases h with rfl | rfl | rfl | rfl | rfl <;> rfl
  ·exact Ai l v h
theorem sS {R : RR → List Value → Prop} (hR : ∀ x cs, R x cs → cs = lU x) : ∀ (l : List RR) (inner : List Value), bO R 5 l inner → inner = flat l
 | [], inner, h => List.eq_nil_of_length_eq_zero (by simpa using h.1)
 | x :: l, inner, h => by
  have h0 := hR _ _ (h.2 0 x rfl)
  simp only [Nat.zero_mul, List.drop_zero] at h0
  have h1 : bO R 5 l (inner.drop 5) := ⟨by rw [List.length_drop, h.1, List.length_cons]; omega, fun j p hj => by
   rw [List.drop_drop, show 5 + j * 5 = (j + 1) * 5 by omega]; exact h.2 (j + 1) p (by simpa using hj)⟩
  rw [flat, ← h0, ← sS hR l _ h1, List.take_append_drop]
theorem EH {R : RR → List Value → Prop} (hR : ∀ x, R x (lU x)) (l : List RR) : bO R 5 l (flat l) := by
 refine ⟨iP l, fun j p hj => ?_⟩
 obtain ⟨hl, e⟩ := List.getElem?_eq_some_iff.1 hj
 rw [yX l j (by omega), List.drop_eq_getElem_cons hl, e, flat, List.take_append_of_le_length (by rw [mH]; exact Nat.le_refl 5), List.take_of_length_le (by rw [mH]; exact Nat.le_refl 5)]
 exact hR p
structure Row (w : World) (base g cap : Nat) (l : List RR) (rest : List Value) : Prop where
 blk : w.heap[g]? = some (.cells (flat l ++ rest).toArray tRR (0, 0))
 lo : base ≤ g
 fits : cap ≤ maxLen
 len : l.length * 5 + rest.length = cap * 5
theorem Row.KI {w : World} {base : Nat} {ok : Nat → Prop} {v : Value} {l : List RR} (h : Kd.R kRR tRR w base ok v l) : (v = .slice none 0 0 ∧ l = []) ∨ ∃ g cap rest, v = .slice (some ⟨g, 0, none⟩) l.length cap ∧ ok g ∧ Row w base g cap l rest := by
 obtain ⟨h0, inner, ⟨h1, h2⟩, hr⟩ := h
 obtain rfl := sS (fun x cs h => Fw h) l inner hr
 rcases h2 with ⟨rfl, h2⟩ | ⟨g, cap, cur, rfl, hg, hb, hn, hc, hs, ht⟩
 ·exact .inl ⟨rfl, List.eq_nil_of_length_eq_zero h2⟩
 ·have hs' : cur.size = cap * 5 := hs
  have hn' : l.length ≤ cap := hn
  have ht' : cur.toList.take (l.length * 5) = flat l := ht
  refine .inr ⟨g, cap, cur.toList.drop (l.length * 5), rfl, h0 g (by simp [Value.ownBlock]), ⟨?_, hg, hc, ?_⟩⟩
  ·rw [← ht', List.take_append_drop, Array.toArray_toList]; exact hb
  ·have e : cur.toList.length = cap * 5 := by simpa using hs'
   rw [List.length_drop, e]; clear h1 hr h0 hb hs ht hn ht'; omega
theorem Row.R {w : World} {base g cap : Nat} {l : List RR} {rest : List Value} {ok : Nat → Prop} (h : Row w base g cap l rest) (hg : ok g) : Kd.R kRR tRR w base ok (.slice (some ⟨g, 0, none⟩) l.length cap) l := by
 have hl := h.len
 refine ⟨fun k hk => by simp [Value.ownBlock] at hk; subst hk; exact hg, flat l, ⟨iP l, .inr ⟨g, cap, _, rfl, h.lo, h.blk, by omega, h.fits, ?_, ?_⟩⟩, EH (fun x => jF _ _ _ x) l⟩
 ·show (flat l ++ rest).toArray.size = cap * 5
  simp [iP]; omega
 ·show (flat l ++ rest).toArray.toList.take (l.length * 5) = flat l
  rw [List.toList_toArray, List.take_append_of_le_length (by rw [iP]; exact Nat.le_refl _), List.take_of_length_le (by rw [iP]; exact Nat.le_refl _)]
theorem Row.cell {w : World} {base g cap : Nat} {l : List RR} {rest : List Value} (h : Row w base g cap l rest) (j : Nat) (u : Value) (hj : (flat l)[j]? = some u) : w.cell? ⟨g, j, none⟩ = some u := by
 rw [aJ h.blk j]
 have hl := (List.getElem?_eq_some_iff.1 hj).1
 show (flat l ++ rest).toArray[j]? = some u
 rw [List.getElem?_toArray, List.getElem?_append_left hl]; exact hj
theorem JE : (Tryz.prog.info? 28).map (fun i => (i.zero, i.size, i.bytes)) = some (some (.agg #[.string ⟨#[]⟩, .int .i64 0, .int .i64 0, .int .i64 0, .string ⟨#[]⟩]), 5, 56) := by kernel_rfl
theorem zm : ∃ i0, Tryz.prog.info? 28 = some i0 ∧ i0.zero = some (.agg #[.string ⟨#[]⟩, .int .i64 0, .int .i64 0, .int .i64 0, .string ⟨#[]⟩]) ∧ i0.size = 5 ∧ i0.bytes = 56 := by
 obtain ⟨i0, hi, h⟩ := Option.map_eq_some_iff.1 JE
 simp only [Prod.mk.injEq] at h
 exact ⟨i0, hi, h.1, h.2.1, h.2.2⟩
abbrev zRR : Value := .agg #[.string ⟨#[]⟩, .int .i64 0, .int .i64 0, .int .i64 0, .string ⟨#[]⟩]
theorem nY {w : World} {g : Nat} {cur : List Value} (h : w.heap[g]? = some (.cells cur.toArray tRR (0, 0))) (k : Nat) (v : Value) : (w.setCell ⟨g, k, none⟩ v).heap[g]? = some (.cells (cur.set k v).toArray tRR (0, 0)) := by
 rw [setCell_eq_setRow w g k cur.toArray tRR (0, 0) v h, setRow_heap w g _ _ _ _ h]
 simp
theorem zH (a0 a1 a2 a3 a4 : Value) (x : RR) (hx : lU x = [a0, a1, a2, a3, a4]) : ∀ (l : List RR) (rest : List Value) (p : Nat), p < l.length →
  (((((flat l ++ rest).set (p * 5) a0).set (p * 5 + 1) a1).set (p * 5 + 2) a2).set (p * 5 + 3) a3).set (p * 5 + 4) a4 = flat (l.set p x) ++ rest
 | [], _, p, h => by simp at h
 | y :: l, rest, 0, _ => by
  show _ = lU x ++ flat l ++ rest
  rw [hx]
  rfl
 | y :: l, rest, p + 1, h => by
  have ih := zH a0 a1 a2 a3 a4 x hx l rest p (by simpa using h)
  show _ = lU y ++ flat (l.set p x) ++ rest
  rw [List.append_assoc, ← ih]
  have e : (p + 1) * 5 = p * 5 + 5 := by omega
  rw [e]
  rfl
theorem Row.put {w : World} {base g cap : Nat} {l : List RR} {rest : List Value} (h : Row w base g cap l rest) (x : RR) (p : Nat) (hp : p < l.length) (a0 a1 a2 a3 a4 : Value) (hx : lU x = [a0, a1, a2, a3, a4]) :
  Row (((((w.setCell ⟨g, p * 5, none⟩ a0).setCell ⟨g, p * 5 + 1, none⟩ a1).setCell ⟨g, p * 5 + 2, none⟩ a2).setCell ⟨g, p * 5 + 3, none⟩ a3).setCell ⟨g, p * 5 + 4, none⟩ a4) base g cap (l.set p x) rest := by
 have hb := nY (nY (nY (nY (nY h.blk (p * 5) a0) (p * 5 + 1) a1) (p * 5 + 2) a2) (p * 5 + 3) a3) (p * 5 + 4) a4
 rw [zH a0 a1 a2 a3 a4 x hx l rest p hp] at hb
 exact ⟨hb, h.lo, h.fits, by rw [List.length_set]; exact h.len⟩
end Go.Y.Rrs
namespace Go.Y.Rrs
open Go.Proofs.aj.aC Go.Proofs.aj.aT Go.Proofs.aj.aV Go.Y.Given Go.Y.PRd Go.Y.PRr
theorem yB (l : List RR) (pr : RR → Bool) (hn : l.length ≤ 1000000) (F : FuncId) (fn : Func) (cb : Array Value) (hf : Tryz.prog.funcs[F]? = some fn) (hname : (fn.name == "runtime.NumGoroutine") = false) (hb : fn.body.isSome = true) (A0 : Option Addr) (c0 : Nat) (w : World) (hC : Kd.C kRR w A0 l.length l)
  (hstep : ∀ x ∈ l, ∀ W, Below w.heap.size w W → Calls Tryz.prog F (#[x.v] ++ cb) W fun e w' => e = .returned (.bool (pr x)) ∧ Below W.heap.size W w') :
  Calls Tryz.prog 87 #[.slice A0 l.length c0, .func (.func F) #[] cb] w fun e w' => ∃ v0_ : Value, e = .returned v0_ ∧ Kd.R kRR 28 w' w.heap.size (fun _ => True) v0_ (l.filter pr) ∧ Below w.heap.size w w' := by
 have hu41 := Tryz.underlying28
 have HF := Lib.hid hf
 have HNM := Lib.hid hname
 have HBD := Lib.hid hb
 have HR := Lib.hid hC
 have HST := Lib.hid hstep
 obtain ⟨n, hnn⟩ : ∃ n, l.length = n := ⟨_, rfl⟩
 have HN := Lib.hid hnn
 rw [hnn] at hn ⊢
 have HB := Lib.hid (Below.refl w.heap.size w)
 clear hf hname hb hC hstep hnn
 go_enter Tryz.func87, Tryz.ntmps87
 go_wp2_with fail
 go_loopg [5, 10] n (fun kx s5 s10 wr => ∃ i : Nat, s10 = .int .i64 (i : Int) ∧ i ≤ n ∧ n - i ≤ kx ∧ Hid (Kd.R kRR 28 wr w.heap.size (fun _ => True) s5 ((l.take i).filter pr)) ∧ Hid (Below w.heap.size w wr))
 case atStart => exact ⟨0, rfl, by omega, by omega, Lib.hid (Kd.fI _ _ _ _ _), Lib.hid HB.out⟩
 case round =>
  clear HB
  obtain ⟨i, rfl, hin, hik, HO, HB⟩ := hrel
  by_cases hlt : i < n
  ·have p1 : (0 : Int) ≤ (i : Int) := by omega
   have q1 : (i : Int) < (l.length : Int) := by rw [HN.out]; omega
   obtain ⟨ad, e1, hx0, hx1, hx2, hx3, hx4⟩ := eX HR.out (i : Int) p1 q1
   cases e1
   rw [Int.toNat_natCast] at hx0 hx1 hx2 hx3 hx4
   replace hx0 := (HB.out.cell (World.block_lt_of_cell? w _ hx0)).trans hx0
   replace hx1 := (HB.out.cell (World.block_lt_of_cell? w _ hx1)).trans hx1
   replace hx2 := (HB.out.cell (World.block_lt_of_cell? w _ hx2)).trans hx2
   replace hx3 := (HB.out.cell (World.block_lt_of_cell? w _ hx3)).trans hx3
   replace hx4 := (HB.out.cell (World.block_lt_of_cell? w _ hx4)).trans hx4
   have q2 : (i : Int) < (n : Int) := by omega
   obtain ⟨x, hx⟩ : ∃ x, rdR l (i : Nat) = x := ⟨_, rfl⟩
   rw [show ak l (i : Int) = x from hx] at hx0 hx1 hx2 hx3 hx4
   have hxl : x = l[i]'(by rw [HN.out]; exact hlt) := by rw [← hx, fB l i (by rw [HN.out]; exact hlt)]
   have hxm : x ∈ l := by rw [hxl]; exact List.getElem_mem _
   have HX := Lib.hid hxl
   have HXM := Lib.hid hxm
   have hw1 : IntKind.i64.wrap ((i : Int) + 1) = (i : Int) + 1 := by rw [IntKind.wrap_i64]; omega
   clear hxm hxl hx q1
   go_wp2_with fail
   rw [tX HF.out HNM.out HBD.out, Oper.upon_enter]
   have hB1 : Below w.heap.size w (wr.alloc (.cells #[.string x.f0, .int .i64 x.f1, .int .i64 x.f2, .int .i64 x.f3, .string x.f4] 28)) := bq HB.out _
   have hO1 := Kd.aW HO.out (.cells #[.string x.f0, .int .i64 x.f1, .int .i64 x.f2, .int .i64 x.f3, .string x.f4] 28)
   have hk : (wr.alloc (.cells #[.string x.f0, .int .i64 x.f1, .int .i64 x.f2, .int .i64 x.f3, .string x.f4] 28)).heap[wr.heap.size]? = some (.cells #[.string x.f0, .int .i64 x.f1, .int .i64 x.f2, .int .i64 x.f3, .string x.f4] 28 (0, 0)) := by show (wr.heap.push _)[wr.heap.size]? = _; simp
   have hgz : wr.heap.size < (wr.alloc (.cells #[.string x.f0, .int .i64 x.f1, .int .i64 x.f2, .int .i64 x.f3, .string x.f4] 28)).heap.size := by show _ < (wr.heap.push _).size; simp
   generalize wr.alloc (.cells #[.string x.f0, .int .i64 x.f1, .int .i64 x.f2, .int .i64 x.f3, .string x.f4] 28) = w1 at hB1 hO1 hk hgz ⊢
   generalize wr.heap.size = gb at hk hgz ⊢
   have hcall := HST.out x HXM.out w1 hB1
   refine hcall.mono ?_
   rintro e w4 ⟨rfl, hb4⟩
   have hk4 : w4.heap[gb]? = _ := (hb4.block gb hgz).trans hk
   have HB4 := Lib.hid (gu hB1 hB1.size hb4)
   have HO4 := Lib.hid (Kd.bS hO1 hb4)
   clear hb4 HB HO hB1 hO1 hk hgz hcall hx0 hx1 hx2 hx3 hx4
   have hx0 : w4.cell? ⟨gb, 0, none⟩ = some (.string x.f0) := by simp [World.cell?, hk4]
   have hx1 : w4.cell? ⟨gb, 1, none⟩ = some (.int .i64 x.f1) := by simp [World.cell?, hk4]
   have hx2 : w4.cell? ⟨gb, 2, none⟩ = some (.int .i64 x.f2) := by simp [World.cell?, hk4]
   have hx3 : w4.cell? ⟨gb, 3, none⟩ = some (.int .i64 x.f3) := by simp [World.cell?, hk4]
   have hx4 : w4.cell? ⟨gb, 4, none⟩ = some (.string x.f4) := by simp [World.cell?, hk4]
   have HSTEP := Lib.hid (show (l.take (i + 1)).filter pr = (l.take i).filter pr ++ (if pr x = true then [x] else []) by
    rw [List.take_add_one, List.getElem?_eq_getElem (by rw [HN.out]; exact hlt), List.filter_append]
    congr 1
    rw [HX.out]
    simp only [Option.toList_some, List.filter_cons, List.filter_nil])
   clear hk4
   generalize hd : pr x = d at HSTEP
   clear hd
   cases d with
   | true =>
    go_wp2_with (first | ((with_reducible refine dR (b := .append) (xs := #[.tmp 17, .tmp 19]) rfl ?_); at_builtin; refine Kd.fF k28 (w0 := w) w.heap.size rfl (.tmp 17) (.tmp 19) 22 28 (.agg #[(.string ⟨#[]⟩), (.int .i64 0), (.int .i64 0), (.int .i64 0), (.string ⟨#[]⟩)]) 56 rfl Tryz.underlying22 nA rfl (by decide) (by omega) u5 ((l.take i).filter pr) x [.string x.f0, .int .i64 x.f1, .int .i64 x.f2, .int .i64 x.f3, .string x.f4] (fun _ => True) (fun _ => False) rfl rfl ?aP (fun _ hk => hk.elim) ?aF ?aO ?aB ?aS ?aL ?_; (case aP => exact jF _ _ _ x); (case aB => exact (by repeat (first | (with_reducible first | exact HB4.out | apply bq | apply aR | apply bW) | exact HB4.out))); (case aF => exact (fun _ _ => trivial)); (case aO => exact (by (with_reducible repeat (first | apply Kd.aW | apply Kd.jq | apply Kd.iN)); exact HO4.out)); (case aS => exact (av (by repeat (first | (with_reducible first | exact HB4.out | apply bq | apply aR | apply bW) | exact HB4.out)))); (case aL => have h1 := List.length_filter_le pr (l.take i); have h2 := HN.out; rw [List.length_take] at h1; omega); intro v7 w7 ho hb hg hat; have n0_ := Lib.hid hb; have n1_ := Lib.hid ho; clear HB4 HO4; have HB4 := n0_; have HO4 := n1_; clear n0_ n1_ ho hb hg hat))
    go_roundg (n - (i + 1))
    case measure => omega
    case rel => exact ⟨i + 1, by rw [show ((i + 1 : Nat) : Int) = (i : Int) + 1 by omega], by omega, Nat.le_refl _, Lib.hid (by rw [HSTEP.out]; simpa using HO4.out), HB4⟩
   | false =>
    go_wp2_with fail
    go_roundg (n - (i + 1))
    case measure => omega
    case rel => exact ⟨i + 1, by rw [show ((i + 1 : Nat) : Int) = (i : Int) + 1 by omega], by omega, Nat.le_refl _, Lib.hid (by rw [HSTEP.out]; simpa using HO4.out), HB4⟩
  ·obtain rfl : i = n := by omega
   have b1 : ¬ ((i : Int) < (i : Int)) := by omega
   go_wp2_with fail
   go_ret
   refine ⟨_, rfl, ?_, HB.out⟩
   have := HO.out
   rw [List.take_of_length_le (by rw [HN.out]; exact Nat.le_refl _)] at this
   exact this
end Go.Y.Rrs
namespace Go.Y.Rrs
open Go.Proofs.aj.aC Go.Proofs.aj.aT Go.Proofs.aj.aV Go.Y.Given Go.Y.PRd Go.Y.PRr
theorem Cz (x : RR) (t : Int) (g : Nat) (w : World) (hc : w.cell? ⟨g, 0, none⟩ = some (.int .i64 t)) :
  Calls Tryz.prog 88 (#[x.v] ++ #[.pointer (some ⟨g, 0, none⟩)]) w fun e w' => e = .returned (.bool (x.f1 == t)) ∧ Below w.heap.size w w' := by
 have hu41 := Tryz.underlying28
 have HB := ah.mk (Below.refl w.heap.size w)
 have HC := Lib.hid hc
 clear hc
 show Calls Tryz.prog 88 #[.agg #[.string x.f0, .int .i64 x.f1, .int .i64 x.f2, .int .i64 x.f3, .string x.f4], .pointer (some ⟨g, 0, none⟩)] w _
 go_enter Tryz.func88, Tryz.ntmps88
 go_wp2_with (first | ((with_reducible refine bY (N := 2) rfl ?_); refine dx ?hg (N := 2) ?hd (cs := #[.string x.f0, .int .i64 x.f1, .int .i64 x.f2, .int .i64 x.f3, .string x.f4]) (t := 28) ?hr ?_; (case hd => rfl); (case hg => rfl); (case hr => first | (go_simp; done) | (go_simp; rfl)); intro gb hg w3 hbox hb; have n0_ := ah.mk (au (HB.out) hb); have n1_ := ah.mk (hbox); clear HB; have HB := n0_; have BK := n1_; have hc3 : w3.cell? ⟨g, 0, none⟩ = some (.int .i64 t) := (HB.out.cell (World.block_lt_of_cell? w _ HC.out)).trans HC.out; clear n0_ n1_; clear hb hbox hg; have hcz1 : w3.cell? ⟨gb, 1, none⟩ = some (.int .i64 x.f1) := (aJ BK.out 1).trans rfl))
 go_ret
 exact ⟨rfl, HB.out⟩
theorem JB (x : RR) (n : ByteArray) (b : Bool) (g : Nat) (w : World) (hc : w.cell? ⟨g, 0, none⟩ = some (.string n)) (h : eu.f x.f0 n = some b) :
  Calls Tryz.prog 153 (#[x.v] ++ #[.pointer (some ⟨g, 0, none⟩)]) w fun e w' => e = .returned (.bool b) ∧ Below w.heap.size w w' := by
 have hu41 := Tryz.underlying28
 have HB := ah.mk (Below.refl w.heap.size w)
 have HC := Lib.hid hc
 have HA := Lib.hid h
 clear hc h
 show Calls Tryz.prog 153 #[.agg #[.string x.f0, .int .i64 x.f1, .int .i64 x.f2, .int .i64 x.f3, .string x.f4], .pointer (some ⟨g, 0, none⟩)] w _
 go_enter Tryz.func153, Tryz.ntmps153
 go_wp2_with (first | ((with_reducible refine bY (N := 2) rfl ?_); refine dx ?hg (N := 2) ?hd (cs := #[.string x.f0, .int .i64 x.f1, .int .i64 x.f2, .int .i64 x.f3, .string x.f4]) (t := 28) ?hr ?_; (case hd => rfl); (case hg => rfl); (case hr => first | (go_simp; done) | (go_simp; rfl)); intro gb hg w3 hbox hb; have n0_ := ah.mk (au (HB.out) hb); have n1_ := ah.mk (hbox); clear HB; have HB := n0_; have BK := n1_; have hc3 : w3.cell? ⟨g, 0, none⟩ = some (.string n) := (HB.out.cell (World.block_lt_of_cell? w _ HC.out)).trans HC.out; clear n0_ n1_; clear hb hbox hg; have hcz0 : w3.cell? ⟨gb, 0, none⟩ = some (.string x.f0) := (aJ BK.out 0).trans rfl))
 refine (eu.calls x.f0 n b w3 HA.out).mono ?_
 rintro e w4 ⟨rfl, hb4⟩
 have HB4 := Lib.hid (gu HB.out HB.out.size hb4)
 clear hb4 HB
 go_wp2_with fail
 go_ret
 exact ⟨rfl, HB4.out⟩
end Go.Y.Rrs
namespace Go.Y.Given
open Go.Proofs.aj.aC Go.Proofs.aj.aT Go.Proofs.aj.aV Go.Y.PRd Go.Y.PRr Go.Y.Rrs
def ji.f (l0 : List (S28)) (a1 : Int) : Option (List (S28)) := if l0.length ≤ 1000000 then some (l0.filter fun x => x.f1 == a1) else none
theorem ji.calls (A0 : Option Addr) (c0 : Nat) (l0 : List (S28)) (a1 : Int) (r : List (S28)) (w : World) (hr0 : Kd.C k28 w A0 l0.length l0) (hc0 : l0.length ≤ c0) (h : ji.f l0 a1 = some r) :
  Calls Tryz.prog 51 #[.slice A0 l0.length c0, .int .i64 a1] w fun e w' => ∃ v0_ : Value, e = .returned (v0_) ∧ Kd.R k28 28 w' w.heap.size (fun _ => True) v0_ r ∧ Below w.heap.size w w' := by
 unfold ji.f at h
 have hn : l0.length ≤ 1000000 := Classical.byContradiction fun hn => by rw [if_neg hn] at h; cases h
 rw [if_pos hn] at h
 injection h with h
 subst h
 have HR := Lib.hid hr0
 have HB := ah.mk (Below.refl w.heap.size w)
 clear hr0 hc0
 go_enter Tryz.func51, Tryz.ntmps51
 go_wp2_with (first | ((with_reducible refine bY (N := 3) rfl ?_); refine dx ?hg (N := 3) ?hd (cs := #[.int .i64 a1]) (t := 3) ?hr ?_; (case hd => rfl); (case hg => rfl); (case hr => first | (go_simp; done) | (go_simp; rfl)); intro gb hg w3 hbox hb; have n0_ := ah.mk (au (HB.out) hb); have n1_ := ah.mk (hbox); clear HB; have HB := n0_; have BK := n1_; clear n0_ n1_; clear hb hbox hg; have hcz1 : w3.cell? ⟨gb, 0, none⟩ = some (.int .i64 a1) := (aJ BK.out 0).trans rfl))
 have HC3 := Lib.hid hcz1
 refine (yB l0 (fun x => x.f1 == a1) hn 88 Tryz.f88 _ Tryz.func88 (by kernel_rfl) rfl A0 c0 w3 (Kd.fC HR.out HB.out) (fun x _ W hW => Cz x a1 gb W ((hW.cell (World.block_lt_of_cell? w3 _ HC3.out)).trans HC3.out))).mono ?_
 rintro e w4 ⟨v, rfl, hv, hb4⟩
 have HV := Lib.hid hv
 have HB4 := Lib.hid (gu HB.out HB.out.size hb4)
 have HS := Lib.hid HB.out.size
 clear hb4 HB hv
 go_wp2_with fail
 go_ret
 exact ⟨_, rfl, Kd.bV HV.out HS.out, HB4.out⟩
open Classical in
noncomputable def lM.f (l0 : List (S28)) (a1 : ByteArray) : Option (List (S28)) := if l0.length ≤ 1000000 ∧ ∀ x ∈ l0, (eu.f x.f0 a1).isSome = true then some (l0.filter fun x => (eu.f x.f0 a1).getD false) else none
theorem lM.calls (A0 : Option Addr) (c0 : Nat) (l0 : List (S28)) (a1 : ByteArray) (r : List (S28)) (w : World) (hr0 : Kd.C k28 w A0 l0.length l0) (hc0 : l0.length ≤ c0) (h : lM.f l0 a1 = some r) :
  Calls Tryz.prog 120 #[.slice A0 l0.length c0, .string a1] w fun e w' => ∃ v0_ : Value, e = .returned (v0_) ∧ Kd.R k28 28 w' w.heap.size (fun _ => True) v0_ r ∧ Below w.heap.size w w' := by
 unfold lM.f at h
 have hn : l0.length ≤ 1000000 ∧ ∀ x ∈ l0, (eu.f x.f0 a1).isSome = true := Classical.byContradiction fun hn => by rw [if_neg hn] at h; cases h
 rw [if_pos hn] at h
 injection h with h
 subst h
 have HR := Lib.hid hr0
 have HA := Lib.hid hn.2
 replace hn := hn.1
 have HB := ah.mk (Below.refl w.heap.size w)
 clear hr0 hc0
 go_enter Tryz.func120, Tryz.ntmps120
 go_wp2_with (first | ((with_reducible refine bY (N := 3) rfl ?_); refine dx ?hg (N := 3) ?hd (cs := #[.string a1]) (t := 9) ?hr ?_; (case hd => rfl); (case hg => rfl); (case hr => first | (go_simp; done) | (go_simp; rfl)); intro gb hg w3 hbox hb; have n0_ := ah.mk (au (HB.out) hb); have n1_ := ah.mk (hbox); clear HB; have HB := n0_; have BK := n1_; clear n0_ n1_; clear hb hbox hg; have hcz1 : w3.cell? ⟨gb, 0, none⟩ = some (.string a1) := (aJ BK.out 0).trans rfl))
 have HC3 := Lib.hid hcz1
 refine (yB l0 (fun x => (eu.f x.f0 a1).getD false) hn 153 Tryz.f153 _ Tryz.func153 (by kernel_rfl) rfl A0 c0 w3 (Kd.fC HR.out HB.out) (fun x hx W hW => JB x a1 _ gb W ((hW.cell (World.block_lt_of_cell? w3 _ HC3.out)).trans HC3.out) (by
  obtain ⟨b, hb⟩ := Option.isSome_iff_exists.mp (HA.out x hx)
  rw [hb]; rfl))).mono ?_
 rintro e w4 ⟨v, rfl, hv, hb4⟩
 have HV := Lib.hid hv
 have HB4 := Lib.hid (gu HB.out HB.out.size hb4)
 have HS := Lib.hid HB.out.size
 clear hb4 HB hv
 go_wp2_with fail
 go_ret
 exact ⟨_, rfl, Kd.bV HV.out HS.out, HB4.out⟩
end Go.Y.Given
namespace Go.Y.Rrs
open Go.Proofs.aj.aC Go.Proofs.aj.aT Go.Proofs.aj.aV Go.Y.Given Go.Y.PRd Go.Y.PRr Go.Y.Oct Go.Y.Name Go.Y.Cmp Go.Y.fq Go.Y.eD Go.Y.dJ
def fO (a b : ByteArray) : Bool := (eu.f a b).getD false
def jW (a b : ByteArray) : Bool := (bB.f 300 a b).getD false
theorem oI (a b : ByteArray) : (∃ l m, good l ∧ good m ∧ (bK l).size ≤ 255 ∧ (bK m).size ≤ 255 ∧ a = bK l ∧ b = bK m) ∨ (bE a = false ∨ bE b = false) := by
 cases ha : bE a
 ·exact .inr (.inl rfl)
 cases hb : bE b
 ·exact .inr (.inr rfl)
 obtain ⟨l, h1, h2, h3⟩ := (kN a).mp ha
 obtain ⟨m, k1, k2, k3⟩ := (kN b).mp hb
 exact .inl ⟨l, m, h1, k1, h3, k3, h2, k2⟩
theorem pJ (a b : ByteArray) : eu.f a b = some (fO a b) := by
 unfold fO
 rcases oI a b with ⟨l, m, gl, gm, sl, sm, rfl, rfl⟩ | h
 ·rw [tY l m gl gm sl sm]; rfl
 ·rw [zL a b h]; rfl
theorem uJ {l m : List ByteArray} (gl : good l) (gm : good m) (sl : (bK l).size ≤ 255) (sm : (bK m).size ≤ 255) : fO (bK l) (bK m) = decide (l.map eF = m.map eF) := by
 unfold fO; rw [tY l m gl gm sl sm]; rfl
theorem Et {a b : ByteArray} (h : bE a = false ∨ bE b = false) : fO a b = false := by
 unfold fO; rw [zL a b h]; rfl
theorem vv (a b : ByteArray) (k : Nat) (hk : 300 ≤ k) : bB.f k a b = some (jW a b) := by
 unfold jW
 rcases oI a b with ⟨l, m, gl, gm, sl, sm, rfl, rfl⟩ | h
 ·rw [wW l m gl gm sl sm k hk, wW l m gl gm sl sm 300 (Nat.le_refl _)]; rfl
 ·rw [uU a b h k (by omega), uU a b h 300 (by omega)]; rfl
theorem AY {l m : List ByteArray} (gl : good l) (gm : good m) (sl : (bK l).size ≤ 255) (sm : (bK m).size ≤ 255) : jW (bK l) (bK m) = mE m l := by
 unfold jW; rw [wW l m gl gm sl sm 300 (Nat.le_refl _)]; rfl
theorem yj {a b : ByteArray} (h : bE a = false ∨ bE b = false) : jW a b = false := by
 unfold jW; rw [uU a b h 300 (by omega)]; rfl
theorem yR (a b : ByteArray) : Ev (fun k => dF.f k a b) (fO a b) := ⟨700, fun k hk => by
 rcases oI a b with ⟨l, m, gl, gm, sl, sm, rfl, rfl⟩ | h
 ·show dF.f k _ _ = _
  rw [Dw l m gl gm sl sm k hk, uJ gl gm sl sm]
 ·show dF.f k _ _ = _
  rw [Gu a b h k hk, Et h]⟩
theorem IJ (a b : ByteArray) : Ev (fun k => bB.f k a b) (jW a b) := ⟨300, fun k hk => vv a b k hk⟩
theorem yQ (a b : ByteArray) : Ev (fun k => aN.f k a b) (jW a b) := ⟨1000, fun k hk => by
 rcases oI a b with ⟨l, m, gl, gm, sl, sm, rfl, rfl⟩ | h
 ·show aN.f k _ _ = _
  rw [Dj l m gl gm sl sm k hk, AY gl gm sl sm]
 ·show aN.f k _ _ = _
  rw [EB a b h k hk, yj h]⟩
theorem yt {x y : RR} (hx : bE x.f0 = true) (hy : bE y.f0 = true) : fO x.f0 y.f0 = true ↔ iZ x = iZ y := by
 obtain ⟨l, gl, sl, el, kl⟩ := mJ x hx
 obtain ⟨m, gm, sm, em, km⟩ := mJ y hy
 rw [kl, km, el, em, uJ gl gm sl sm, decide_eq_true_eq, List.reverse_inj]
theorem wz {a : ByteArray} (ha : bE a = true) : fO a a = true := (yt (x := ⟨a, 0, 0, 0, a⟩) (y := ⟨a, 0, 0, 0, a⟩) ha ha).mpr rfl
theorem II (x : RR) : jJ.f x.f0 x.f1 x.f2 x.f3 x.f4 = some (mZ x.f2 x.f4) := by
 unfold jJ.f mZ
 repeat' split
 all_goals rfl
theorem Dc (b : Bool) (x : RR) (h : b = false → x.f4.size ≤ 1000000) : Ev (fun k => bF.j0 k b x.f0 x.f1 x.f2 x.f3 x.f4) (!b && (!mZ x.f2 x.f4 || jB x.f1 x.f4)) := by
 have hs : ∀ k, bF.j0 (k + 1) b x.f0 x.f1 x.f2 x.f3 x.f4 = if b = true then some false else (jJ.f x.f0 x.f1 x.f2 x.f3 x.f4).bind fun t => if t = true then (iQ.f x.f1 x.f4).bind fun u => some u else some true := fun k => by
  simp only [bF.j0]
 refine Ev.step hs ?_
 cases b
 ·simp only [II, Option.bind_some, Bool.false_eq_true, if_false]
  cases ht : mZ x.f2 x.f4
  ·simp only [Bool.false_eq_true, if_false]
   exact Ev.now _
  ·simp only [if_true]
   refine Ev.const ?_
   have := h rfl
   unfold iQ.f
   rw [if_pos (by omega)]
   rfl
 ·simp only [if_true]
  exact Ev.now _
theorem uW (x : RR) : Ev (fun k => bF.f k x.f0 x.f1 x.f2 x.f3 x.f4) (fT x) := by
 have hs : ∀ k, bF.f k x.f0 x.f1 x.f2 x.f3 x.f4 = bF.j0 k (!(bE x.f0 && (decide (0 ≤ x.f1) && (decide (x.f1 ≤ 65535) && (decide (0 ≤ x.f2) && (decide (x.f2 ≤ 65535) && (decide (0 ≤ x.f3) && (decide (x.f3 ≤ 2147483647) && decide (x.f4.size ≤ 65535))))))))) x.f0 x.f1 x.f2 x.f3 x.f4 := fun k => by
  unfold bF.f
  rw [ku, Option.bind_some]
  by_cases h1 : x.f1 < 0
  ·simp [h1, show ¬ (0 ≤ x.f1) by omega]
  by_cases h2 : x.f1 > 65535
  ·simp [h1, h2, show ¬ (x.f1 ≤ 65535) by omega]
  by_cases h3 : x.f2 < 0
  ·simp [h1, h2, h3, show ¬ (0 ≤ x.f2) by omega]
  by_cases h4 : x.f2 > 65535
  ·simp [h1, h2, h3, h4, show ¬ (x.f2 ≤ 65535) by omega]
  by_cases h5 : x.f3 < 0
  ·simp [h1, h2, h3, h4, h5, show ¬ (0 ≤ x.f3) by omega]
  by_cases h6 : x.f3 > 2147483647
  ·simp [h1, h2, h3, h4, h5, h6, show ¬ (x.f3 ≤ 2147483647) by omega]
  have e7 : decide ((x.f4.size : Int) > 65535) = !decide (x.f4.size ≤ 65535) := by
   by_cases h7 : x.f4.size ≤ 65535
   ·rw [decide_eq_true h7, decide_eq_false (by omega)]; rfl
   ·rw [decide_eq_false h7, decide_eq_true (by omega)]; rfl
  rw [if_neg h1, if_neg h2, if_neg h3, if_neg h4, if_neg h5, if_neg h6, e7]
  cases bE x.f0
  ·simp
  ·simp [show 0 ≤ x.f1 by omega, show x.f1 ≤ 65535 by omega, show 0 ≤ x.f2 by omega, show x.f2 ≤ 65535 by omega, show 0 ≤ x.f3 by omega, show x.f3 ≤ 2147483647 by omega]
 refine Ev.congr hs ?_
 refine (?_ : (!(!(bE x.f0 && _)) && _) = fT x) ▸ Dc _ x ?_
 ·unfold fT
  simp only [Bool.not_not, Bool.and_assoc]
 ·intro h
  simp only [Bool.not_eq_false', Bool.and_eq_true, decide_eq_true_eq] at h
  omega
def jg (t : Int) : Bool := (fU.f t).getD false
theorem xP (t : Int) : fU.f t = some (jg t) := by
 unfold jg fU.f
 repeat' split
 all_goals rfl
def mo (a : ByteArray) (x : RR) : Bool := decide (x.f2 = 1) && (jg x.f1 && jW x.f0 a)
theorem uX (a : ByteArray) (x : RR) (k : Nat) (hk : 300 ≤ k) : gL.f k a x.f0 x.f1 x.f2 x.f3 x.f4 = some (mo a x) := by
 unfold gL.f mo
 rw [xP, vv _ _ k hk]
 by_cases h : x.f2 = 1
 ·rw [if_pos h, decide_eq_true h, Option.bind_some]
  cases jg x.f1 <;> rfl
 ·rw [if_neg h, decide_eq_false h]; rfl
def atL (l : List RR) (n : ByteArray) : List RR := l.filter fun x => fO x.f0 n
def fH (l : List RR) (t : Int) : List RR := l.filter fun x => x.f1 == t
def nD (l : List RR) (n : ByteArray) (t : Int) : List RR := fH (atL l n) t
theorem Jp (l : List RR) (n : ByteArray) (h : l.length ≤ 1000000) : lM.f l n = some (atL l n) := by
 unfold lM.f
 rw [if_pos ⟨h, fun x _ => by rw [pJ]; rfl⟩]
 rfl
theorem zI (l : List RR) (t : Int) (h : l.length ≤ 1000000) : ji.f l t = some (fH l t) := by
 unfold ji.f
 rw [if_pos h]; rfl
theorem Cm (l : List RR) (n : ByteArray) : (atL l n).length ≤ l.length := List.length_filter_le _ _
theorem Je (l : List RR) (n : ByteArray) (hn : l.length ≤ 1000000) : ∀ (d i : Nat) (out : List RR), l.length ≤ i + d → i ≤ l.length → out.length ≤ i → Ev (fun k => bR.l0 k l n out (i : Int)) (out ++ atL (l.drop i) n) := by
 have hend : ∀ (i : Nat) (out : List RR), l.length ≤ i → Ev (fun k => bR.l0 k l n out (i : Int)) (out ++ atL (l.drop i) n) := by
  intro i out hd
  refine Ev.step (f := fun _ => some out) (fun k => by rw [bR.l0]; rw [if_neg (by omega)]) ?_
  rw [List.drop_of_length_le hd]
  show Ev _ (out ++ [])
  rw [List.append_nil]
  exact Ev.now _
 intro d
 induction d with
 | zero => exact fun i out hd hi0 ho => hend i out (by omega)
 | succ d ih =>
  intro i out hd hi0 ho
  by_cases hi : i < l.length
  ·have e1 : wrap64 ((i : Int) + 1) = ((i + 1 : Nat) : Int) := by unfold wrap64; omega
   have hr := fB l i hi
   have hs : ∀ k, bR.l0 (k + 1) l n out (i : Int) = (dF.f k (rdR l (i : Int)).f0 n).bind fun t => if t = true then bR.l0 k l n (out ++ [rdR l (i : Int)]) ((i + 1 : Nat) : Int) else bR.l0 k l n out ((i + 1 : Nat) : Int) := fun k => by
    rw [bR.l0, e1]
    rw [if_pos (by omega), if_pos (by omega)]
    congr 1
    funext t
    rw [if_pos (show out.length < _ by omega)]
   rw [hr] at hs
   refine Ev.step hs (Ev.bind (yR _ _) ?_)
   rw [List.drop_eq_getElem_cons hi]
   unfold atL
   rw [List.filter_cons]
   cases fO l[i].f0 n
   ·simp only [Bool.false_eq_true, if_false]
    exact ih (i + 1) out (by omega) (by omega) (by omega)
   ·simp only [if_true]
    have := ih (i + 1) (out ++ [l[i]]) (by omega) (by omega) (by rw [List.length_append, List.length_singleton]; omega)
    rw [List.append_assoc, List.singleton_append] at this
    exact this
  ·exact hend i out (by omega)
theorem EM (l : List RR) (n : ByteArray) (hn : l.length ≤ 1000000) : Ev (fun k => bR.f k l n) (atL l n) := by
 have := Je l n hn l.length 0 [] (by omega) (Nat.zero_le _) (Nat.le_refl _)
 rw [List.drop_zero, List.nil_append] at this
 exact this
theorem Ik (l : List RR) (t : Int) (hn : l.length ≤ 1000000) : ∀ (d i : Nat) (out : List RR), l.length ≤ i + d → i ≤ l.length → out.length ≤ i → Ev (fun k => bM.l0 k l t out (i : Int)) (out ++ fH (l.drop i) t) := by
 have hend : ∀ (i : Nat) (out : List RR), l.length ≤ i → Ev (fun k => bM.l0 k l t out (i : Int)) (out ++ fH (l.drop i) t) := by
  intro i out hd
  refine Ev.step (f := fun _ => some out) (fun k => by rw [bM.l0]; rw [if_neg (by omega)]) ?_
  rw [List.drop_of_length_le hd]
  show Ev _ (out ++ [])
  rw [List.append_nil]
  exact Ev.now _
 intro d
 induction d with
 | zero => exact fun i out hd hi0 ho => hend i out (by omega)
 | succ d ih =>
  intro i out hd hi0 ho
  by_cases hi : i < l.length
  ·have e1 : wrap64 ((i : Int) + 1) = ((i + 1 : Nat) : Int) := by unfold wrap64; omega
   have hr := fB l i hi
   have hs : ∀ k, bM.l0 (k + 1) l t out (i : Int) = if (rdR l (i : Int)).f1 = t then bM.l0 k l t (out ++ [rdR l (i : Int)]) ((i + 1 : Nat) : Int) else bM.l0 k l t out ((i + 1 : Nat) : Int) := fun k => by
    rw [bM.l0, e1]
    rw [if_pos (by omega), if_pos (by omega), if_pos (show out.length < _ by omega)]
   rw [hr] at hs
   refine Ev.step hs ?_
   rw [List.drop_eq_getElem_cons hi]
   unfold fH
   rw [List.filter_cons]
   by_cases h : l[i].f1 = t
   ·simp only [h, beq_self_eq_true, if_true]
    have := ih (i + 1) (out ++ [l[i]]) (by omega) (by omega) (by rw [List.length_append, List.length_singleton]; omega)
    rw [List.append_assoc, List.singleton_append] at this
    exact this
   ·simp only [h, beq_eq_false_iff_ne.mpr h, Bool.false_eq_true, if_false]
    exact ih (i + 1) out (by omega) (by omega) (by omega)
  ·exact hend i out (by omega)
theorem yH (l : List RR) (t : Int) (hn : l.length ≤ 1000000) : Ev (fun k => bM.f k l t) (fH l t) := by
 have := Ik l t hn l.length 0 [] (by omega) (Nat.zero_le _) (Nat.le_refl _)
 rw [List.drop_zero, List.nil_append] at this
 exact this
def mP (l : List RR) (i : Nat) : Bool := !((rdR l (i : Int)).f1 == 5 && ((decide (0 < i) && fO (rdR l ((i - 1 : Nat) : Int)).f0 (rdR l (i : Int)).f0) || (decide (i + 1 < l.length) && fO (rdR l ((i + 1 : Nat) : Int)).f0 (rdR l (i : Int)).f0)))
def kM (l : List RR) : Nat → Nat → Bool
 | 0, _ => true
 | d + 1, i => if i < l.length then mP l i && kM l d (i + 1) else true
def oZ (l : List RR) : Bool := kM l l.length 0
theorem CQ (l : List RR) (hn : l.length ≤ 1000000) : ∀ (d i : Nat), l.length ≤ i + d → i ≤ l.length → Ev (fun k => bU.l0 k l l (l.length : Int) (i : Int)) (kM l d i) := by
 intro d
 induction d with
 | zero =>
  intro i hd hi0
  exact Ev.step (f := fun _ => some true) (fun k => by rw [bU.l0]; rw [if_neg (by omega)]) (Ev.now _)
 | succ d ih =>
  intro i hd hi0
  by_cases hi : i < l.length
  ·rw [kM, if_pos hi]
   have e1 : wrap64 ((i : Int) + 1) = ((i + 1 : Nat) : Int) := by unfold wrap64; omega
   have ihn := ih (i + 1) (by omega) (by omega)
   have hnext : Ev (fun k => if ((i + 1 : Nat) : Int) < (l.length : Int) then (if 0 ≤ ((i + 1 : Nat) : Int) then ((eu.f (rdR l ((i + 1 : Nat) : Int)).f0 (rdR l (i : Int)).f0).bind fun t => if t = true then some false else bU.l0 k l l (l.length : Int) ((i + 1 : Nat) : Int)) else none) else bU.l0 k l l (l.length : Int) ((i + 1 : Nat) : Int))
     (!(decide (i + 1 < l.length) && fO (rdR l ((i + 1 : Nat) : Int)).f0 (rdR l (i : Int)).f0) && kM l d (i + 1)) := by
    by_cases h : i + 1 < l.length
    ·simp only [show (((i + 1 : Nat) : Int) < (l.length : Int)) = True from eq_true (by omega), show (0 ≤ ((i + 1 : Nat) : Int)) = True from eq_true (by omega), if_true, pJ, Option.bind_some, decide_eq_true h, Bool.true_and]
     cases fO (rdR l ((i + 1 : Nat) : Int)).f0 (rdR l (i : Int)).f0
     ·simp only [Bool.false_eq_true, if_false, Bool.not_false, Bool.true_and]; exact ihn
     ·simp only [if_true, Bool.not_true, Bool.false_and]; exact Ev.now _
    ·simp only [show (((i + 1 : Nat) : Int) < (l.length : Int)) = False from eq_false (by omega), if_false, decide_eq_false h, Bool.false_and, Bool.not_false, Bool.true_and]
     exact ihn
   have hs : ∀ k, bU.l0 (k + 1) l l (l.length : Int) (i : Int) = if (rdR l (i : Int)).f1 = 5 then (if (i : Int) > 0 then (if 0 ≤ wrap64 ((i : Int) - 1) then (if wrap64 ((i : Int) - 1) < (l.length : Int) then ((eu.f (rdR l (wrap64 ((i : Int) - 1))).f0 (rdR l (i : Int)).f0).bind fun t => if t = true then some false else if ((i + 1 : Nat) : Int) < (l.length : Int) then (if 0 ≤ ((i + 1 : Nat) : Int) then ((eu.f (rdR l ((i + 1 : Nat) : Int)).f0 (rdR l (i : Int)).f0).bind fun t => if t = true then some false else bU.l0 k l l (l.length : Int) ((i + 1 : Nat) : Int)) else none) else bU.l0 k l l (l.length : Int) ((i + 1 : Nat) : Int)) else none) else none)
     else if ((i + 1 : Nat) : Int) < (l.length : Int) then (if 0 ≤ ((i + 1 : Nat) : Int) then ((eu.f (rdR l ((i + 1 : Nat) : Int)).f0 (rdR l (i : Int)).f0).bind fun t => if t = true then some false else bU.l0 k l l (l.length : Int) ((i + 1 : Nat) : Int)) else none) else bU.l0 k l l (l.length : Int) ((i + 1 : Nat) : Int)) else bU.l0 k l l (l.length : Int) ((i + 1 : Nat) : Int) := fun k => by
    rw [bU.l0, e1]; rw [if_pos (by omega), if_pos (by omega), if_pos (by omega)]
   refine Ev.step hs ?_
   unfold mP
   by_cases h5 : (rdR l (i : Int)).f1 = 5
   ·simp only [h5, if_true, beq_self_eq_true, Bool.true_and]
    by_cases h0 : 0 < i
    ·have e2 : wrap64 ((i : Int) - 1) = ((i - 1 : Nat) : Int) := by unfold wrap64; omega
     simp only [e2, show ((i : Int) > 0) = True from eq_true (by omega), show (0 ≤ ((i - 1 : Nat) : Int)) = True from eq_true (by omega), show (((i - 1 : Nat) : Int) < (l.length : Int)) = True from eq_true (by omega), if_true, pJ, Option.bind_some, decide_eq_true h0, Bool.true_and]
     simp only [pJ, Option.bind_some] at hnext
     cases fO (rdR l ((i - 1 : Nat) : Int)).f0 (rdR l (i : Int)).f0
     ·simp only [Bool.false_eq_true, if_false, Bool.false_or]; exact hnext
     ·simp only [if_true, Bool.true_or, Bool.not_true, Bool.false_and]; exact Ev.now _
    ·simp only [show ((i : Int) > 0) = False from eq_false (by omega), if_false, decide_eq_false h0, Bool.false_and, Bool.false_or]
     exact hnext
   ·have h5' : ((rdR l (i : Int)).f1 == 5) = false := beq_eq_false_iff_ne.mpr h5
    simp only [h5, if_false, h5', Bool.false_and, Bool.not_false, Bool.true_and]
    exact ihn
  ·rw [kM, if_neg hi]
   exact Ev.step (f := fun _ => some true) (fun k => by rw [bU.l0]; rw [if_neg (by omega)]) (Ev.now _)
theorem Ih (l : List RR) (hn : l.length ≤ 1000000) : Ev (fun k => bU.f k l) (oZ l) := CQ l hn l.length 0 (by omega) (Nat.zero_le _)
theorem zq (l : List RR) : ∀ (d i : Nat), l.length ≤ i + d → (kM l d i = true ↔ ∀ j, i ≤ j → j < l.length → mP l j = true) := by
 intro d
 induction d with
 | zero => intro i hd; exact ⟨fun _ j h1 h2 => by omega, fun _ => rfl⟩
 | succ d ih =>
  intro i hd
  rw [kM]
  split
  ·rename_i hi
   rw [Bool.and_eq_true, ih (i + 1) (by omega)]
   constructor
   ·rintro ⟨h1, h2⟩ j hj hl
    by_cases e : j = i
    ·rw [e]; exact h1
    ·exact h2 j (by omega) hl
   ·exact fun h => ⟨h i (Nat.le_refl _) hi, fun j hj hl => h j (by omega) hl⟩
  ·rename_i hi
   exact ⟨fun _ j h1 h2 => by omega, fun _ => rfl⟩
theorem wo (l : List RR) : oZ l = true ↔ ∀ j, j < l.length → mP l j = true := by
 unfold oZ
 rw [zq l _ 0 (by omega)]
 exact ⟨fun h j hj => h j (Nat.zero_le _) hj, fun h j _ hj => h j hj⟩
end Go.Y.Rrs
namespace Go.Y.dJ
variable {α : Type} {c : α → α → Int}
theorem vw (O : fE c) (a b : List α) (h : ∀ x ∈ a, ∀ y ∈ b, ¬ c x y = 0) (z : α) : cls c (a ++ b) z = cls c (b ++ a) z := by
 rw [gy, gy]
 by_cases ha : ∃ x ∈ a, c z x = 0
 ·obtain ⟨x, hx, h0⟩ := ha
  have : cls c b z = [] := lW fun y hy h1 => h x hx y hy (by rw [← O.cong z x y h0]; exact h1)
  rw [this]; simp
 ·have : cls c a z = [] := lW fun y hy h1 => ha ⟨y, hy, h1⟩
  rw [this]; simp
theorem dQ.qA {l : List α} (h : Sorted c l) : dQ c l l := ⟨h, fun _ => rfl⟩
theorem dQ.mem (O : fE c) {l m : List α} (h : dQ c l m) {y : α} (hy : y ∈ m) : y ∈ l := wh O h.2 hy
theorem ow {l m : List α} (hl : Sorted c l) (hm : Sorted c m) (h : ∀ x ∈ l, ∀ y ∈ m, c x y ≤ 0) : Sorted c (l ++ m) := List.pairwise_append.mpr ⟨hl, hm, h⟩
theorem qp {l m : List α} (h : Sorted c (l ++ m)) : Sorted c l := (List.pairwise_append.mp h).1
theorem sF {l m : List α} (h : Sorted c (l ++ m)) : Sorted c m := (List.pairwise_append.mp h).2.1
theorem kK {l m : List α} (h : Sorted c (l ++ m)) : ∀ x ∈ l, ∀ y ∈ m, c x y ≤ 0 := (List.pairwise_append.mp h).2.2
theorem rE (O : fE c) {l1 l2 : List α} {x : α} (hs : Sorted c (l1 ++ l2)) (h1 : ∀ y ∈ l1, c y x ≤ 0) (h2 : ∀ y ∈ l2, c x y < 0) : dQ c (l1 ++ l2 ++ [x]) (l1 ++ x :: l2) := by
 refine ⟨?_, fun z => ?_⟩
 ·refine ow (qp hs) (List.pairwise_cons.mpr ⟨fun y hy => by have := h2 y hy; omega, sF hs⟩) fun a ha b hb => ?_
  rcases List.mem_cons.mp hb with rfl | hb
  ·exact h1 a ha
  ·exact kK hs a ha b hb
 ·have e := vw O [x] l2 (fun a ha b hb => by
   rw [List.mem_singleton] at ha
   subst ha
   have := h2 b hb
   omega) z
  rw [gy, show x :: l2 = [x] ++ l2 from rfl, e, List.append_assoc, gy c l1]
theorem AP (O : fE c) {r1 r2 : List α} {x : α} (hs : Sorted c (r1 ++ r2)) (h1 : ∀ y ∈ r1, c y x < 0) (h2 : ∀ y ∈ r2, 0 ≤ c y x) : dQ c ([x] ++ (r1 ++ r2)) (r1 ++ x :: r2) := by
 refine ⟨?_, fun z => ?_⟩
 ·refine ow (qp hs) (List.pairwise_cons.mpr ⟨fun y hy => by have := h2 y hy; have := O.flip y x; omega, sF hs⟩) fun a ha b hb => ?_
  rcases List.mem_cons.mp hb with rfl | hb
  ·have := h1 a ha; omega
  ·exact kK hs a ha b hb
 ·have e := vw O r1 [x] (fun a ha b hb => by
   rw [List.mem_singleton] at hb
   subst hb
   have := h1 a ha
   omega) z
  rw [show r1 ++ x :: r2 = r1 ++ [x] ++ r2 by simp, gy, e, ← gy, List.append_assoc]
theorem yZ (O : fE c) {l1 l2 r1 r2 m1 m2 : List α} (hl : Sorted c (l1 ++ l2)) (hr : Sorted c (r1 ++ r2)) (h1 : ∀ x ∈ l1, ∀ y ∈ r2, c x y ≤ 0) (h2 : ∀ y ∈ r1, ∀ x ∈ l2, c y x < 0)
  (s1 : dQ c (l1 ++ r1) m1) (s2 : dQ c (l2 ++ r2) m2) : dQ c ((l1 ++ l2) ++ (r1 ++ r2)) (m1 ++ m2) := by
 refine ⟨ow s1.1 s2.1 fun x hx y hy => ?_, fun z => ?_⟩
 ·have hx' := s1.mem O hx
  have hy' := s2.mem O hy
  rcases List.mem_append.mp hx' with hx' | hx' <;> rcases List.mem_append.mp hy' with hy' | hy'
  ·exact kK hl x hx' y hy'
  ·exact h1 x hx' y hy'
  ·have := h2 x hx' y hy'; omega
  ·exact kK hr x hx' y hy'
 ·have e := vw O r1 l2 (fun a ha b hb => by have := h2 a ha b hb; omega) z
  rw [gy, s1.2, s2.2, ← gy, show l1 ++ r1 ++ (l2 ++ r2) = l1 ++ (r1 ++ l2) ++ r2 by simp, gy, gy c l1, e, ← gy, ← gy]
  simp
def Blocks (c : α → α → Int) (s : Nat) (l : List α) : Prop := ∀ k, Sorted c ((l.drop (k * s)).take s)
theorem DN (s : Nat) : Blocks c s [] := fun k => by simp [Sorted]
theorem uw {s t : Nat} {p q : List α} (hp : Blocks c s p) (ht : p.length = t * s) (hq : Sorted c q) (hs : q.length ≤ s) : Blocks c s (p ++ q) := by
 intro k
 rw [List.drop_append]
 by_cases h : k < t
 ·have h1 : (k + 1) * s ≤ t * s := Nat.mul_le_mul_right s h
  rw [Nat.add_mul, Nat.one_mul] at h1
  rw [Nat.sub_eq_zero_of_le (show k * s ≤ p.length by omega), List.drop_zero, List.take_append_of_le_length (by rw [List.length_drop]; omega)]
  exact hp k
 ·have h1 : t * s ≤ k * s := Nat.mul_le_mul_right s (by omega)
  rw [List.drop_of_length_le (by omega), List.nil_append]
  exact (hq.sublist (List.drop_sublist _ _)).sublist (List.take_sublist _ _)
theorem DT {s : Nat} {l : List α} (h : Blocks c s l) (hs : l.length ≤ s) : Sorted c l := by
 have := h 0
 rw [Nat.zero_mul, List.drop_zero, List.take_of_length_le hs] at this
 exact this
theorem wP (p s : List α) (x y : α) : (p ++ x :: s).set p.length y = p ++ y :: s := by
 rw [List.set_append_right _ _ (Nat.le_refl _), Nat.sub_self, List.set_cons_zero]
theorem get_at (p s : List α) (x : α) : (p ++ x :: s)[p.length]? = some x := by
 rw [List.getElem?_append_right (Nat.le_refl _), Nat.sub_self]; rfl
theorem EI (p s : List α) (x y : α) (i : Nat) (hi : i = p.length) : ((p ++ x :: y :: s).set (i + 1) x).set i y = p ++ y :: x :: s := by
 subst hi
 rw [show p ++ x :: y :: s = (p ++ [x]) ++ y :: s by simp, show p.length + 1 = (p ++ [x]).length by simp, wP, show p ++ [x] ++ x :: s = p ++ x :: (x :: s) by simp, wP]
theorem Kh (p s : List α) (x y : α) (i : Nat) (hi : i = p.length) : ((p ++ x :: y :: s).set i y).set (i + 1) x = p ++ y :: x :: s := by
 subst hi
 rw [wP, show p ++ y :: y :: s = (p ++ [y]) ++ y :: s by simp, show p.length + 1 = (p ++ [y]).length by simp, wP]
 simp
def sw (l : List α) (i j : Nat) : List α := match l[i]?, l[j]? with
 | some x, some y => (l.set i y).set j x
 | _, _ => l
theorem yT (l : List α) (i j : Nat) : (sw l i j).length = l.length := by unfold sw; split <;> simp
theorem Fp (l : List α) (i j : Nat) (hi : i < l.length) (hj : j < l.length) (t : Nat) : (sw l i j)[t]? = if t = j then l[i]? else if t = i then l[j]? else l[t]? := by
 unfold sw
 rw [List.getElem?_eq_getElem hi, List.getElem?_eq_getElem hj]
 simp only [List.getElem?_set, List.length_set]
 by_cases h1 : t = j
 ·subst h1
  simp [hj]
 ·rw [if_neg (fun e => h1 e.symm), if_neg h1]
  by_cases h2 : t = i
  ·subst h2
   simp [hi]
  ·rw [if_neg (fun e => h2 e.symm), if_neg h2]
def swR (l : List α) (a b : Nat) : Nat → List α
 | 0 => l
 | n + 1 => sw (swR l a b n) (a + n) (b + n)
theorem kE (l : List α) (a b n : Nat) : (swR l a b n).length = l.length := by
 induction n with
 | zero => rfl
 | succ n ih => rw [swR, yT, ih]
theorem xK (l : List α) (a b : Nat) : ∀ n, a + n ≤ b → b + n ≤ l.length → ∀ t, (swR l a b n)[t]? = if a ≤ t ∧ t < a + n then l[t + (b - a)]? else if b ≤ t ∧ t < b + n then l[t - (b - a)]? else l[t]? := by
 intro n
 induction n with
 | zero =>
  intro h1 h2 t
  rw [swR, if_neg (by omega), if_neg (by omega)]
 | succ n ih =>
  intro h1 h2 t
  have ih' := ih (by omega) (by omega)
  rw [swR, Fp _ _ _ (by rw [kE]; omega) (by rw [kE]; omega), ih', ih', ih']
  by_cases e1 : t = b + n
  ·subst e1
   rw [if_pos rfl, if_neg (by omega), if_neg (by omega), if_neg (by omega), if_pos (by omega)]
   congr 1; omega
  ·rw [if_neg e1]
   by_cases e2 : t = a + n
   ·subst e2
    rw [if_pos rfl, if_neg (by omega), if_neg (by omega), if_pos (by omega)]
    congr 1; omega
   ·rw [if_neg e2]
    by_cases e3 : a ≤ t ∧ t < a + n
    ·rw [if_pos e3, if_pos (by omega)]
    ·rw [if_neg e3, if_neg (show ¬ (a ≤ t ∧ t < a + (n + 1)) by omega)]
     by_cases e4 : b ≤ t ∧ t < b + n
     ·rw [if_pos e4, if_pos (by omega)]
     ·rw [if_neg e4, if_neg (by omega)]
def Rot (l l' : List α) (m i j : Nat) : Prop := l'.length = l.length ∧ ∀ t, l'[t]? = if m - i ≤ t ∧ t < m - i + j then l[t + i]? else if m - i + j ≤ t ∧ t < m + j then l[t - j]? else l[t]?
theorem Jg (l : List α) (m i : Nat) (hi : i ≤ m) (hm : m + i ≤ l.length) : Rot l (swR l (m - i) m i) m i i := by
 refine ⟨kE _ _ _ _, fun t => ?_⟩
 rw [xK l (m - i) m i (by omega) (by omega)]
 have e : m - (m - i) = i := by omega
 rw [e]
 by_cases h1 : m - i ≤ t ∧ t < m - i + i
 ·rw [if_pos h1, if_pos h1]
 ·rw [if_neg h1, if_neg h1]
  by_cases h2 : m ≤ t ∧ t < m + i
  ·rw [if_pos h2, if_pos (by omega)]
  ·rw [if_neg h2, if_neg (by omega)]
theorem Hl {l l' : List α} {m i j : Nat} (hj : j < i) (hi : i ≤ m) (hm : m + j ≤ l.length) (h : Rot (swR l (m - i) m j) l' m (i - j) j) : Rot l l' m i j := by
 refine ⟨h.1.trans (kE _ _ _ _), fun t => ?_⟩
 have g := xK l (m - i) m j (by omega) (by omega)
 rw [h.2 t]
 simp only [g]
 repeat' split
 all_goals first | rfl | (exfalso; omega) | (refine congrArg (fun k => l[k]?) ?_; omega)
theorem Gc {l l' : List α} {m i j : Nat} (hj : i < j) (hi : i ≤ m) (hm : m + j ≤ l.length) (h : Rot (swR l (m - i) (m + j - i) i) l' m i (j - i)) : Rot l l' m i j := by
 refine ⟨h.1.trans (kE _ _ _ _), fun t => ?_⟩
 have g := xK l (m - i) (m + j - i) i (by omega) (by omega)
 rw [h.2 t]
 simp only [g]
 repeat' split
 all_goals first | rfl | (exfalso; omega) | (refine congrArg (fun k => l[k]?) ?_; omega)
theorem Eu {p u v s l' : List α} (h : Rot (p ++ (u ++ (v ++ s))) l' (p.length + u.length) u.length v.length) : l' = p ++ (v ++ (u ++ s)) := by
 refine List.ext_getElem? fun t => ?_
 rw [h.2 t]
 have e : p.length + u.length - u.length = p.length := by omega
 rw [e]
 by_cases h1 : p.length ≤ t ∧ t < p.length + v.length
 ·rw [if_pos h1]
  rw [List.getElem?_append_right (by omega), List.getElem?_append_right (by omega), List.getElem?_append_left (by omega), List.getElem?_append_right (by omega), List.getElem?_append_left (by omega)]
  congr 1; omega
 ·rw [if_neg h1]
  by_cases h2 : p.length + v.length ≤ t ∧ t < p.length + u.length + v.length
  ·rw [if_pos h2]
   rw [List.getElem?_append_right (by omega), List.getElem?_append_left (by omega), List.getElem?_append_right (by omega), List.getElem?_append_right (by omega), List.getElem?_append_left (by omega)]
   congr 1; omega
  ·rw [if_neg h2]
   by_cases h3 : t < p.length
   ·rw [List.getElem?_append_left h3, List.getElem?_append_left h3]
   ·rw [List.getElem?_append_right (by omega), List.getElem?_append_right (by omega), List.getElem?_append_right (by omega), List.getElem?_append_right (by omega), List.getElem?_append_right (by omega), List.getElem?_append_right (by omega)]
    congr 1; omega
end Go.Y.dJ
namespace Go.Y.dJ
variable {α : Type} {c : α → α → Int}
theorem fE.lt_of_le_of_lt (O : fE c) {a b e : α} (h : c a b ≤ 0) (h' : c b e < 0) : c a e < 0 := by
 by_cases k : c a b = 0
 ·exact O.lt_of_eq_of_lt k h'
 ·exact O.trans a b e (by omega) h'
theorem fE.lt_of_lt_of_le (O : fE c) {a b e : α} (h : c a b < 0) (h' : c b e ≤ 0) : c a e < 0 := by
 by_cases k : c b e = 0
 ·exact O.lt_of_lt_of_eq h k
 ·exact O.trans a b e h (by omega)
def Cut (P : Nat → Prop) (lo hi i j : Nat) : Prop := lo ≤ i ∧ i ≤ j ∧ j ≤ hi ∧ (∀ t, lo ≤ t → t < i → P t) ∧ ∀ t, j ≤ t → t < hi → ¬ P t
def xJ (P : Nat → Prop) (lo hi : Nat) : Prop := ∀ t t', lo ≤ t → t < t' → t' < hi → P t' → P t
theorem Cut.start {P : Nat → Prop} {lo hi : Nat} (h : lo ≤ hi) : Cut P lo hi lo hi := ⟨Nat.le_refl _, h, Nat.le_refl _, fun t a b => by omega, fun t a b => by omega⟩
theorem Cut.yes {P : Nat → Prop} {lo hi i j m : Nat} (M : xJ P lo hi) (h : Cut P lo hi i j) (h1 : i ≤ m) (h2 : m < j) (hp : P m) : Cut P lo hi (m + 1) j := by
 obtain ⟨a, b, e, f, g⟩ := h
 refine ⟨by omega, by omega, e, fun t x y => ?_, g⟩
 by_cases k : t = m
 ·rw [k]; exact hp
 ·exact M t m x (by omega) (by omega) hp
theorem Cut.no {P : Nat → Prop} {lo hi i j m : Nat} (M : xJ P lo hi) (h : Cut P lo hi i j) (h1 : i ≤ m) (h2 : m < j) (hp : ¬ P m) : Cut P lo hi i m := by
 obtain ⟨a, b, e, f, g⟩ := h
 refine ⟨a, h1, by omega, f, fun t x y k => ?_⟩
 by_cases q : t = m
 ·exact hp (q ▸ k)
 ·exact hp (M m t (by omega) (by omega) y k)
theorem kV (l : List α) (d : α) {t : Nat} (h : t < l.length) : l.getD t d = l[t] := by simp [List.getD, h]
theorem mG {l : List α} (d : α) {i : Nat} {y : α} (h : y ∈ l.take i) : ∃ t, t < i ∧ t < l.length ∧ l.getD t d = y := by
 obtain ⟨t, ht, rfl⟩ := List.getElem_of_mem h
 rw [List.length_take] at ht
 exact ⟨t, by omega, by omega, by rw [kV l d (by omega), List.getElem_take]⟩
theorem mI {l : List α} (d : α) {i : Nat} {y : α} (h : y ∈ l.drop i) : ∃ t, i ≤ t ∧ t < l.length ∧ l.getD t d = y := by
 obtain ⟨t, ht, rfl⟩ := List.getElem_of_mem h
 rw [List.length_drop] at ht
 exact ⟨i + t, by omega, by omega, by rw [kV l d (by omega), List.getElem_drop]⟩
theorem jT {l : List α} (O : fE c) (h : Sorted c l) (d : α) {i j : Nat} (hij : i ≤ j) (hj : j < l.length) : c (l.getD i d) (l.getD j d) ≤ 0 := by
 by_cases e : i = j
 ·subst e; rw [O.refl]; omega
 ·rw [kV l d (by omega), kV l d hj]; exact List.pairwise_iff_getElem.mp h i j (by omega) hj (by omega)
theorem Im (O : fE c) (d x : α) {r : List α} (h : Sorted c r) : xJ (fun t => c (r.getD t d) x < 0) 0 r.length := fun t t' _ h1 h2 h3 => O.lt_of_le_of_lt (jT O h d (by omega) h2) h3
theorem FP (O : fE c) (d y : α) {l : List α} (h : Sorted c l) : xJ (fun t => 0 ≤ c y (l.getD t d)) 0 l.length := fun t t' _ h1 h2 h3 => Int.not_lt.mp fun k => Int.not_lt.mpr h3 (O.lt_of_lt_of_le k (jT O h d (by omega) h2))
theorem Hw (O : fE c) (d x : α) {r : List α} (h : Sorted c r) {i : Nat} (C : Cut (fun t => c (r.getD t d) x < 0) 0 r.length i i) : dQ c ([x] ++ r) (r.take i ++ x :: r.drop i) := by
 have := AP O (r1 := r.take i) (r2 := r.drop i) (x := x) (by rw [List.take_append_drop]; exact h) (fun y hy => by
  obtain ⟨t, h1, h2, rfl⟩ := mG d hy
  exact C.2.2.2.1 t (Nat.zero_le _) h1) (fun y hy => by
  obtain ⟨t, h1, h2, rfl⟩ := mI d hy
  exact Int.not_lt.mp (C.2.2.2.2 t h1 h2))
 rwa [List.take_append_drop] at this
theorem FH (O : fE c) (d y : α) {l : List α} (h : Sorted c l) {i : Nat} (C : Cut (fun t => 0 ≤ c y (l.getD t d)) 0 l.length i i) : dQ c (l ++ [y]) (l.take i ++ y :: l.drop i) := by
 have := rE O (l1 := l.take i) (l2 := l.drop i) (x := y) (by rw [List.take_append_drop]; exact h) (fun z hz => by
  obtain ⟨t, h1, h2, rfl⟩ := mG d hz
  have h3 := C.2.2.2.1 t (Nat.zero_le _) h1
  have := O.flip y (l.getD t d)
  omega) (fun z hz => by
  obtain ⟨t, h1, h2, rfl⟩ := mI d hz
  exact Int.not_le.mp (C.2.2.2.2 t h1 h2))
 rwa [List.take_append_drop] at this
theorem Er (O : fE c) (d : α) {l r : List α} (hl : Sorted c l) (hr : Sorted c r) {H lo hi : Nat} (h1 : hi ≤ H) (h2 : hi ≤ l.length) (h3 : H ≤ lo + r.length) : xJ (fun t => 0 ≤ c (r.getD (H - 1 - t) d) (l.getD t d)) lo hi := fun t t' a b e f => Int.not_lt.mp fun k =>
 Int.not_lt.mpr f (O.lt_of_lt_of_le (O.lt_of_le_of_lt (jT O hr d (by omega) (by omega)) k) (jT O hl d (by omega) (by omega)))
theorem FT (O : fE c) (d : α) {l r m1 m2 : List α} (hl : Sorted c l) (hr : Sorted c r) {H lo hi u : Nat} (h1 : hi ≤ H) (h2 : hi ≤ l.length) (h3 : H ≤ lo + r.length) (h4 : lo = 0 ∨ lo + r.length = H) (h5 : hi = H ∨ hi = l.length)
  (C : Cut (fun t => 0 ≤ c (r.getD (H - 1 - t) d) (l.getD t d)) lo hi u u) (s1 : dQ c (l.take u ++ r.take (H - u)) m1) (s2 : dQ c (l.drop u ++ r.drop (H - u)) m2) : dQ c (l ++ r) (m1 ++ m2) := by
 obtain ⟨a, _, b, e, f⟩ := C
 have := yZ O (l1 := l.take u) (l2 := l.drop u) (r1 := r.take (H - u)) (r2 := r.drop (H - u)) (by rw [List.take_append_drop]; exact hl) (by rw [List.take_append_drop]; exact hr) (fun x hx y hy => by
  obtain ⟨t, k1, k2, rfl⟩ := mG d hx
  obtain ⟨j, k3, k4, rfl⟩ := mI d hy
  have h := e (u - 1) (by omega) (by omega)
  have g := O.flip (r.getD (H - 1 - (u - 1)) d) (l.getD (u - 1) d)
  exact O.le_trans (O.le_trans (jT O hl d (i := t) (j := u - 1) (by omega) (by omega)) (show c _ (r.getD (H - 1 - (u - 1)) d) ≤ 0 by omega)) (jT O hr d (by omega) k4)) (fun y hy x hx => by
  obtain ⟨t, k1, k2, rfl⟩ := mG d hy
  obtain ⟨j, k3, k4, rfl⟩ := mI d hx
  have h := Int.not_le.mp (f u (Nat.le_refl _) (by omega))
  exact O.lt_of_lt_of_le (O.lt_of_le_of_lt (jT O hr d (i := t) (j := H - 1 - u) (by omega) (by omega)) h) (jT O hl d (by omega) k4)) s1 s2
 rwa [List.take_append_drop, List.take_append_drop] at this
theorem tL (d : α) (p l s : List α) {t : Nat} (h : t < l.length) {i : Nat} (hi : i = p.length + t) : (p ++ (l ++ s))[i]? = some (l.getD t d) := by
 subst hi
 rw [List.getElem?_append_right (by omega), Nat.add_sub_cancel_left, List.getElem?_append_left h, kV l d h, List.getElem?_eq_getElem h]
theorem uy (p v z : List α) (x : α) {q : Nat} (hq : q < v.length) : p ++ (v.take q ++ x :: (v.drop q ++ z)) = (p ++ v.take q) ++ x :: v[q] :: (v.drop (q + 1) ++ z) ∧ p ++ (v.take (q + 1) ++ x :: (v.drop (q + 1) ++ z)) = (p ++ v.take q) ++ v[q] :: x :: (v.drop (q + 1) ++ z) ∧ (p ++ v.take q).length = p.length + q := by
 have h1 : v.drop q = v[q] :: v.drop (q + 1) := List.drop_eq_getElem_cons hq
 have h2 : v.take (q + 1) = v.take q ++ [v[q]] := List.take_succ_eq_append_getElem hq
 refine ⟨by rw [h1]; simp only [List.append_assoc, List.cons_append], by rw [h2]; simp only [List.append_assoc, List.cons_append, List.nil_append], by rw [List.length_append, List.length_take]; omega⟩
theorem Ce (p s : List α) (x y : α) : (p ++ x :: y :: s)[p.length + 1]? = some y := by
 have := get_at (p ++ [x]) s y
 simpa only [List.append_assoc, List.cons_append, List.nil_append, List.length_append, List.length_cons, List.length_nil, Nat.zero_add] using this
theorem Ir (p v z : List α) (x : α) {k q : Nat} (hq : q < v.length) (hk : p.length + q = k) : ∃ y, (p ++ (v.take q ++ x :: (v.drop q ++ z)))[k]? = some x ∧ (p ++ (v.take q ++ x :: (v.drop q ++ z)))[k + 1]? = some y ∧ ((p ++ (v.take q ++ x :: (v.drop q ++ z))).set k y).set (k + 1) x = p ++ (v.take (q + 1) ++ x :: (v.drop (q + 1) ++ z)) := by
 obtain ⟨e1, e2, e3⟩ := uy p v z x hq
 rw [hk] at e3
 rw [e1, e2, ← e3]
 exact ⟨_, get_at _ _ _, Ce _ _ _ _, Kh _ _ _ _ _ rfl⟩
theorem CU (p v z : List α) (x : α) {k q : Nat} (hq : q < v.length) (hk : p.length + q = k) : ∃ y, (p ++ (v.take (q + 1) ++ x :: (v.drop (q + 1) ++ z)))[k]? = some y ∧ (p ++ (v.take (q + 1) ++ x :: (v.drop (q + 1) ++ z)))[k + 1]? = some x ∧ ((p ++ (v.take (q + 1) ++ x :: (v.drop (q + 1) ++ z))).set (k + 1) y).set k x = p ++ (v.take q ++ x :: (v.drop q ++ z)) := by
 obtain ⟨e1, e2, e3⟩ := uy p v z x hq
 rw [hk] at e3
 rw [e1, e2, ← e3]
 exact ⟨_, get_at _ _ _, Ce _ _ _ _, EI _ _ _ _ _ rfl⟩
end Go.Y.dJ
namespace Go.Y.Rrs
open Go.Proofs.aj.aC Go.Proofs.aj.aT Go.Proofs.aj.aV Go.Y.Given Go.Y.PRd Go.Y.PRr Go.Y.dJ
theorem Row.below {w w' : World} {base g cap : Nat} {l : List RR} {rest : List Value} (h : Row w base g cap l rest) (hb : Below w.heap.size w w') : Row w' base g cap l rest := ⟨aD h.blk hb, h.lo, h.fits, h.len⟩
theorem Row.drew {w : World} {base g cap : Nat} {l : List RR} {rest : List Value} (h : Row w base g cap l rest) : Row w.drew base g cap l rest := ⟨fu h.blk, h.lo, h.fits, h.len⟩
def Own (w0 : World) (base g c : Nat) (rest : List Value) (w : World) (l : List RR) : Prop := Row w base g c l rest ∧ Below base w0 w
section
variable {w0 w : World} {base g c : Nat} {rest : List Value} {l : List RR}
theorem Own.drew (h : Own w0 base g c rest w l) : Own w0 base g c rest w.drew l := ⟨h.1.drew, bW h.2⟩
theorem Own.below (h : Own w0 base g c rest w l) {w' : World} (hb : Below w.heap.size w w') : Own w0 base g c rest w' l := ⟨h.1.below hb, gu h.2 (Nat.le_trans h.1.lo (Nat.le_of_lt (fQ h.1.blk))) hb⟩
theorem qI {i : Nat} {x : RR} (h : l[i]? = some x) (k : Nat) (hk : k < 5) : (flat l)[i * 5 + k]? = (lU x)[k]? := by
 obtain ⟨hi, e⟩ := List.getElem?_eq_some_iff.1 h
 rw [← List.getElem?_drop, yX l i (by omega), List.drop_eq_getElem_cons hi, e, flat, List.getElem?_append_left (by rw [mH]; exact hk)]
theorem Own.at5 (h : Own w0 base g c rest w l) {i : Nat} {x : RR} (hx : l[i]? = some x) : w.cell? ⟨g, i * 5, none⟩ = some (.string x.f0) ∧ w.cell? ⟨g, i * 5 + 1, none⟩ = some (.int .i64 x.f1) ∧ w.cell? ⟨g, i * 5 + 2, none⟩ = some (.int .i64 x.f2) ∧ w.cell? ⟨g, i * 5 + 3, none⟩ = some (.int .i64 x.f3) ∧ w.cell? ⟨g, i * 5 + 4, none⟩ = some (.string x.f4) ∧
  w.frozen? ⟨g, i * 5, none⟩ = false ∧ w.frozen? ⟨g, i * 5 + 1, none⟩ = false ∧ w.frozen? ⟨g, i * 5 + 2, none⟩ = false ∧ w.frozen? ⟨g, i * 5 + 3, none⟩ = false ∧ w.frozen? ⟨g, i * 5 + 4, none⟩ = false :=
 have f := fun p => bA h.1.blk p
 ⟨h.1.cell _ _ (qI hx 0 (by decide)), h.1.cell _ _ (qI hx 1 (by decide)), h.1.cell _ _ (qI hx 2 (by decide)), h.1.cell _ _ (qI hx 3 (by decide)), h.1.cell _ _ (qI hx 4 (by decide)), f _, f _, f _, f _, f _⟩
abbrev Eb (w : World) (g p : Nat) (x : RR) : World := ((((w.setCell ⟨g, p, none⟩ (.string x.f0)).setCell ⟨g, p + 1, none⟩ (.int .i64 x.f1)).setCell ⟨g, p + 2, none⟩ (.int .i64 x.f2)).setCell ⟨g, p + 3, none⟩ (.int .i64 x.f3)).setCell ⟨g, p + 4, none⟩ (.string x.f4)
theorem Own.put (h : Own w0 base g c rest w l) (x : RR) (p : Nat) (hp : p < l.length) : Own w0 base g c rest (Eb w g (p * 5) x) (l.set p x) :=
 ⟨h.1.put x p hp _ _ _ _ _ rfl, ((((h.2.setCell (p := ⟨g, p * 5, none⟩) h.1.lo _).setCell (p := ⟨g, p * 5 + 1, none⟩) h.1.lo _).setCell (p := ⟨g, p * 5 + 2, none⟩) h.1.lo _).setCell (p := ⟨g, p * 5 + 3, none⟩) h.1.lo _).setCell (p := ⟨g, p * 5 + 4, none⟩) h.1.lo _⟩
theorem Own.next (h : Own w0 base g c rest w l) {i j : Nat} {x : RR} (y : RR) (hi : i < l.length) (hx : l[j]? = some x) (hn : i ≠ j) : Own w0 base g c rest (Eb w g (i * 5) y) (l.set i y) ∧ (l.set i y)[j]? = some x := ⟨h.put y i hi, by rw [List.getElem?_set_ne hn]; exact hx⟩
theorem Own.swap (h : Own w0 base g c rest w l) {i j : Nat} {x y : RR} (hx : l[i]? = some x) (hy : l[j]? = some y) : Own w0 base g c rest (Eb (Eb w g (i * 5) y) g (j * 5) x) ((l.set i y).set j x) :=
 (h.put y i (List.getElem?_eq_some_iff.1 hx).1).put x j (by rw [List.length_set]; exact (List.getElem?_eq_some_iff.1 hy).1)
end
abbrev oD : Value := .func (.func 34) #[] #[]
theorem qU {x y : RR} (hx : fine x) (hy : fine y) (w : World) : Calls Tryz.prog 34 #[x.v, y.v] w fun e w' => e = .returned (.int .i64 (bG x y)) ∧ Below w.heap.size w w' :=
 FN 1000 x y _ w (BM x y hx.1 hy.1 hx.2 hy.2 1000 (Nat.le_refl _))
theorem iV {x : Int} {n : Nat} (h : x = (n : Int)) (hn : n ≤ 9223372036854775807) : IntKind.i64.wrap x = (n : Int) := by rw [h, IntKind.wrap_i64]; omega
theorem qx {α : Type} {l : List α} {i : Nat} (h : i < l.length) : ∃ x, l[i]? = some x := ⟨_, List.getElem?_eq_getElem h⟩
end Go.Y.Rrs
namespace Go.Y.Rrs
open Go.Proofs.aj.aC Go.Proofs.aj.aT Go.Proofs.aj.aV Go.Y.Given Go.Y.PRd Go.Y.PRr Go.Y.dJ
abbrev zR : RR := ⟨⟨#[]⟩, 0, 0, 0, ⟨#[]⟩⟩
theorem zA (i j : Nat) (hb : i + j ≤ 4000000) : ∃ k h : Nat, IntKind.i64.wrap ((i : Int) + (j : Int)) = (k : Int) ∧ IntKind.u64.wrap (k : Int) = (k : Int) ∧ (k : Int) / 2 = (h : Int) ∧ IntKind.i64.wrap (h : Int) = (h : Int) ∧ IntKind.i64.wrap ((h : Int) + 1) = ((h + 1 : Nat) : Int) ∧ 2 * h ≤ i + j ∧ i + j ≤ 2 * h + 1 := by
 refine ⟨i + j, (i + j) / 2, iV (by omega) (by omega), ?_, by omega, iV rfl (by omega), iV (by omega) (by omega), by omega, by omega⟩
 have e2 : ((i + j : Nat) : Int) % 2 ^ 64 = ((i + j : Nat) : Int) := by omega
 simp only [IntKind.wrap, IntKind.bits, IntKind.signed, e2]; rw [if_neg (by simp)]
theorem Ko {w0 : World} {base g c : Nat} {rest : List Value} (p r s : List RR) (x : RR) (hr0 : 0 < r.length) (hs : Sorted bG r) (hfx : fine x) (hf : ∀ y ∈ r, fine y) {N a m b : Nat} (hn : N ≤ 1000000) (hN : (p ++ ([x] ++ (r ++ s))).length = N) (ha : p.length = a) (hm : a + 1 = m) (hb : m + r.length = b) (w : World) (HO : Own w0 base g c rest w (p ++ ([x] ++ (r ++ s)))) :
  Calls Tryz.prog 114 #[.slice (some ⟨g, 0, none⟩) N c, .int .i64 (a : Int), .int .i64 (m : Int), .int .i64 (b : Int), oD] w fun e w' => e = .returned (.tuple #[]) ∧ ∃ mm, dQ bG ([x] ++ r) mm ∧ mm.length = 1 + r.length ∧ Own w0 base g c rest w' (p ++ (mm ++ s)) := by
 have hu22 := Tryz.underlying22
 have hu41 := Tryz.underlying28
 have hl : (p ++ ([x] ++ (r ++ s))).length = p.length + 1 + r.length + s.length := by simp; omega
 rw [hN] at hl
 obtain ⟨R, hR⟩ : ∃ R, r.length = R := ⟨_, rfl⟩
 have HR := Lib.hid HO
 have HF := Lib.hid hf
 have HM := Lib.hid (Im jA zR x hs)
 have HFX := Lib.hid hfx
 have HS := Lib.hid hs
 have HL := Lib.hid hR
 have HA := Lib.hid ha
 have h1 : a + 1 ≤ m ∧ m ≤ a + 1 := by omega
 have h2 : m + R ≤ b ∧ b ≤ m + R ∧ b ≤ N ∧ 0 < R := by omega
 have e1 : IntKind.i64.wrap ((m : Int) - (a : Int)) = 1 := iV (n := 1) (by omega) (by omega)
 have hcx : (p ++ ([x] ++ (r ++ s)))[a]? = some x := by rw [← ha]; exact dJ.get_at _ _ _
 have HCX := Lib.hid hcx
 have hrd : ∀ t h, t < R → m + t = h → (p ++ ([x] ++ (r ++ s)))[h]? = some (r.getD t zR) := fun t h ht e => by
  have := tL zR (p ++ [x]) r s (t := t) (by omega) (i := h) (by simp; omega)
  rwa [List.append_assoc] at this
 have HRD := Lib.hid hrd
 clear HO hf hfx hs hN hl ha hm hb hcx hrd hR hr0
 go_enter Tryz.func114, Tryz.ntmps114
 go_wp2_with fail
 go_loopg [10, 11] R (fun kx si sj wr => ∃ (i j u v : Nat), si = .int .i64 (i : Int) ∧ sj = .int .i64 (j : Int) ∧ i ≤ m + u ∧ m + u ≤ i ∧ j ≤ m + v ∧ m + v ≤ j ∧ u ≤ v ∧ v ≤ R ∧ v - u ≤ kx ∧ Hid (Cut (fun t => bG (r.getD t zR) x < 0) 0 r.length u v) ∧ Hid (Own w0 base g c rest wr (p ++ ([x] ++ (r ++ s)))))
 case atStart => exact ⟨m, b, 0, R, rfl, rfl, by omega, by omega, by omega, by omega, by omega, by omega, by omega, Lib.hid (by rw [← HL.out]; exact Cut.start (Nat.zero_le _)), HR⟩
 case round =>
  clear HR
  obtain ⟨i, j, u, v, rfl, rfl, i1, i2, j1, j2, huv, hv, hk, HC, HR⟩ := hrel
  by_cases hlt : u < v
  ·obtain ⟨k, h, k1, k2, k3, k4, k5, k6, k7⟩ := zA i j (by omega)
   have hltz : (i : Int) < (j : Int) := by omega
   obtain ⟨q, hq⟩ : ∃ q, h - m = q := ⟨_, rfl⟩
   have q1 : m + q = h := by omega
   have q2 : u ≤ q ∧ q < v := by omega
   obtain ⟨y, hy⟩ : ∃ y, r.getD q zR = y := ⟨_, rfl⟩
   have hcy := HRD.out q h (by omega) q1
   rw [hy] at hcy
   have hfy : fine y := by rw [← hy, kV r zR (by rw [HL.out]; omega)]; exact HF.out _ (List.getElem_mem _)
   obtain ⟨y0, y1, y2, y3, y4, y5, y6, y7, y8, y9⟩ := HR.out.at5 hcy
   obtain ⟨x0, x1, x2, x3, x4, x5, x6, x7, x8, x9⟩ := HR.out.at5 HCX.out
   have HY := Lib.hid hy
   have HQ := Lib.hid q1
   have p0 : (0 : Int) ≤ (h : Int) := by omega
   have p1 : (h : Int) < (N : Int) := by omega
   have p2 : (0 : Int) ≤ (a : Int) := by omega
   have p3 : (a : Int) < (N : Int) := by omega
   clear hq q1 hy hcy
   go_wp2_with fail
   go_still_tail 9, (by kernel_rfl)
   change wpList _ _ _ _ _ wr.drew
   clear x0 x1 x2 x3 x4 x5 x6 x7 x8 x9 y0 y1 y2 y3 y4 y5 y6 y7 y8 y9
   have HR1 := Lib.hid HR.out.drew
   have hcall := qU hfy HFX.out wr.drew
   clear HR hfy
   generalize wr.drew = wd at HR1 hcall
   have HCALL := Lib.hid hcall
   clear hcall
   go_wp2_with fail
   refine (HCALL.out).mono ?_
   rintro en w4 ⟨rfl, hb4⟩
   have HR := Lib.hid (HR1.out.below hb4)
   clear hb4 HR1 HCALL
   obtain ⟨o, ho⟩ : ∃ o, bG y x = o := ⟨_, rfl⟩
   rw [ho]
   have HO := Lib.hid ho
   clear ho
   by_cases hlv : o < 0
   ·obtain ⟨h1', hh1⟩ : ∃ h1', h + 1 = h1' := ⟨_, rfl⟩
    rw [hh1] at k5
    have hh2 : h + 1 ≤ h1' ∧ h1' ≤ h + 1 := by omega
    have HC2 := Lib.hid (HC.out.yes (HM.out) q2.1 q2.2 (by rw [HY.out, HO.out]; exact hlv))
    clear hh1
    go_wp2_with fail
    go_roundg (v - (q + 1))
    case measure => omega
    case rel => exact ⟨h1', j, q + 1, v, rfl, rfl, by have := HQ.out; omega, by have := HQ.out; omega, j1, j2, by omega, hv, Nat.le_refl _, HC2, HR⟩
   ·have HC2 := Lib.hid (HC.out.no (HM.out) q2.1 q2.2 (by rw [HY.out, HO.out]; exact hlv))
    go_wp2_with fail
    go_roundg (q - u)
    case measure => omega
    case rel => exact ⟨i, h, u, q, rfl, rfl, i1, i2, by have := HQ.out; omega, by have := HQ.out; omega, q2.1, by omega, Nat.le_refl _, HC2, HR⟩
  ·have hltz : ¬ (i : Int) < (j : Int) := by omega
   obtain rfl : u = v := by omega
   have HD := Lib.hid (Hw jA zR x HS.out (i := u) HC.out)
   have hul : u ≤ r.length := by rw [HL.out]; exact hv
   obtain ⟨z, hz⟩ : ∃ z, r.drop u ++ s = z := ⟨_, rfl⟩
   have hcur : p ++ ([x] ++ (r ++ s)) = p ++ ([] ++ x :: (r.take u ++ z)) := by rw [← hz, ← List.append_assoc (r.take u), List.take_append_drop]; simp
   rw [hcur] at HR
   have hfin : p ++ ((r.take u ++ x :: r.drop u) ++ s) = p ++ (r.take u ++ x :: z) := by rw [← hz]; simp
   have HFIN := Lib.hid hfin
   obtain ⟨v1, hv1⟩ : ∃ v1, r.take u = v1 := ⟨_, rfl⟩
   have hvl : v1.length = u := by rw [← hv1, List.length_take]; omega
   rw [hv1] at HR HFIN HD
   have HVL := Lib.hid hvl
   obtain ⟨i0, hi0⟩ : ∃ i0, a + u = i0 := ⟨_, rfl⟩
   have ei : IntKind.i64.wrap ((i : Int) - 1) = (i0 : Int) := iV (by omega) (by omega)
   have i3 : i0 ≤ a + u ∧ a + u ≤ i0 := by omega
   have HRL : Hid (v1.length + (r.drop u).length = r.length) := Lib.hid (by rw [hvl, List.length_drop]; omega)
   clear HC hcur hz hfin hv1 hvl hi0 hul HM HF HRD HCX HS
   go_wp2_with fail
   go_loopg [13] u (fun kx sk wr => ∃ (k q : Nat), sk = .int .i64 (k : Int) ∧ k ≤ a + q ∧ a + q ≤ k ∧ q ≤ u ∧ u - q ≤ kx ∧ Hid (Own w0 base g c rest wr (p ++ (v1.take q ++ x :: (v1.drop q ++ z)))))
   case atStart => exact ⟨a, 0, rfl, by omega, by omega, by omega, by omega, by rw [List.take_zero, List.drop_zero]; exact HR⟩
   case round =>
    clear HR
    obtain ⟨k, q, rfl, k1, k2, hq, hkq, HR⟩ := hrel
    by_cases hlt : q < u
    ·obtain ⟨y, hx, hy, hs⟩ := Ir p v1 z x (k := k) (q := q) (by rw [HVL.out]; exact hlt) (by rw [HA.out]; omega)
     obtain ⟨k', hk'⟩ : ∃ k', k + 1 = k' := ⟨_, rfl⟩
     have ek : IntKind.i64.wrap ((k : Int) + 1) = (k' : Int) := iV (by omega) (by omega)
     obtain ⟨cur, hc⟩ : ∃ cur, p ++ (v1.take q ++ x :: (v1.drop q ++ z)) = cur := ⟨_, rfl⟩
     rw [hk'] at hy hs
     rw [hc] at hx hy hs HR
     have HS2 := Lib.hid (HR.out.swap hx hy).drew
     rw [hs] at HS2
     obtain ⟨D2, hy2⟩ := HR.out.next y (List.getElem?_eq_some_iff.1 hx).1 hy (show k ≠ k' by omega)
     obtain ⟨x0, x1, x2, x3, x4, x5, x6, x7, x8, x9⟩ := HR.out.at5 hx
     obtain ⟨y0, y1, y2, y3, y4, y5, y6, y7, y8, y9⟩ := HR.out.at5 hy
     obtain ⟨z0, z1, z2, z3, z4, z5, z6, z7, z8, z9⟩ := D2.at5 hy2
     have hltz : (k : Int) < (i0 : Int) := by omega
     have p0 : (0 : Int) ≤ (k : Int) := by omega
     have p1 : (k : Int) < (N : Int) := by omega
     have p2 : (0 : Int) ≤ (k' : Int) := by omega
     have p3 : (k' : Int) < (N : Int) := by omega
     have k3 : k' ≤ a + (q + 1) ∧ a + (q + 1) ≤ k' := by omega
     clear HR D2 hy2 hx hy hs hc hk'
     go_wp2_with fail
     go_big_region
     all_goals go_wp2
     go_roundg (u - (q + 1))
     case measure => omega
     case rel => exact ⟨k', q + 1, rfl, k3.1, k3.2, hlt, Nat.le_refl _, HS2⟩
    ·have hltz : ¬ (k : Int) < (i0 : Int) := by omega
     obtain rfl : q = u := by omega
     have hr := HR.out
     rw [List.take_of_length_le (by rw [HVL.out]; exact Nat.le_refl _), List.drop_of_length_le (by rw [HVL.out]; exact Nat.le_refl _), List.nil_append, ← HFIN.out] at hr
     have HR2 := Lib.hid hr
     clear hr HR
     go_wp2_with fail
     refine bodyPost_ret (results_none rfl _ _ _) rfl ?_
     exact ⟨rfl, _, HD.out, by have := HRL.out; simp at this ⊢; omega, HR2.out⟩
end Go.Y.Rrs
namespace Go.Y.Rrs
open Go.Proofs.aj.aC Go.Proofs.aj.aT Go.Proofs.aj.aV Go.Y.Given Go.Y.PRd Go.Y.PRr Go.Y.dJ
theorem KE {w0 : World} {base g c : Nat} {rest : List Value} (p l s : List RR) (y : RR) (hl0 : 1 < l.length) (hs : Sorted bG l) (hfy : fine y) (hf : ∀ x ∈ l, fine x) {N a m b : Nat} (hn : N ≤ 1000000) (hN : (p ++ (l ++ ([y] ++ s))).length = N) (ha : p.length = a) (hm : a + l.length = m) (hb : m + 1 = b) (w : World) (HO : Own w0 base g c rest w (p ++ (l ++ ([y] ++ s)))) :
  Calls Tryz.prog 114 #[.slice (some ⟨g, 0, none⟩) N c, .int .i64 (a : Int), .int .i64 (m : Int), .int .i64 (b : Int), oD] w fun e w' => e = .returned (.tuple #[]) ∧ ∃ mm, dQ bG (l ++ [y]) mm ∧ mm.length = l.length + 1 ∧ Own w0 base g c rest w' (p ++ (mm ++ s)) := by
 have hu22 := Tryz.underlying22
 have hu41 := Tryz.underlying28
 have hl : (p ++ (l ++ ([y] ++ s))).length = p.length + l.length + 1 + s.length := by simp; omega
 rw [hN] at hl
 obtain ⟨A, hA⟩ : ∃ A, l.length = A := ⟨_, rfl⟩
 have HR := Lib.hid HO
 have HF := Lib.hid hf
 have HM := Lib.hid (FP jA zR y hs)
 have HFY := Lib.hid hfy
 have HS := Lib.hid hs
 have HL := Lib.hid hA
 have HA := Lib.hid ha
 have h1 : b ≤ m + 1 ∧ m + 1 ≤ b ∧ b ≤ N ∧ 1 < A := by omega
 have h2 : m ≤ a + A ∧ a + A ≤ m := by omega
 have e1 : IntKind.i64.wrap ((m : Int) - (a : Int)) = (A : Int) := iV (by omega) (by omega)
 have e2 : IntKind.i64.wrap ((b : Int) - (m : Int)) = 1 := iV (n := 1) (by omega) (by omega)
 have e3 : ((A : Int) == 1) = false := beq_false_of_ne (by omega)
 have hcy : (p ++ (l ++ ([y] ++ s)))[m]? = some y := by
  have := dJ.get_at (p ++ l) s y
  rw [List.length_append, ha, hA, show a + A = m by omega] at this
  simpa using this
 have HCY := Lib.hid hcy
 have hrd : ∀ t h, t < A → a + t = h → (p ++ (l ++ ([y] ++ s)))[h]? = some (l.getD t zR) := fun t h ht e => tL zR p l ([y] ++ s) (t := t) (by omega) (i := h) (by omega)
 have HRD := Lib.hid hrd
 clear HO hf hfy hs hN hl ha hm hb hcy hrd hA hl0
 go_enter Tryz.func114, Tryz.ntmps114
 go_wp2_with fail
 go_loopg [14, 15] A (fun kx si sj wr => ∃ (i j u v : Nat), si = .int .i64 (i : Int) ∧ sj = .int .i64 (j : Int) ∧ i ≤ a + u ∧ a + u ≤ i ∧ j ≤ a + v ∧ a + v ≤ j ∧ u ≤ v ∧ v ≤ A ∧ v - u ≤ kx ∧ Hid (Cut (fun t => 0 ≤ bG y (l.getD t zR)) 0 l.length u v) ∧ Hid (Own w0 base g c rest wr (p ++ (l ++ ([y] ++ s)))))
 case atStart => exact ⟨a, m, 0, A, rfl, rfl, by omega, by omega, by omega, by omega, by omega, by omega, by omega, Lib.hid (by rw [← HL.out]; exact Cut.start (Nat.zero_le _)), HR⟩
 case round =>
  clear HR
  obtain ⟨i, j, u, v, rfl, rfl, i1, i2, j1, j2, huv, hv, hk, HC, HR⟩ := hrel
  by_cases hlt : u < v
  ·obtain ⟨k, h, k1, k2, k3, k4, k5, k6, k7⟩ := zA i j (by omega)
   have hltz : (i : Int) < (j : Int) := by omega
   obtain ⟨q, hq⟩ : ∃ q, h - a = q := ⟨_, rfl⟩
   have q1 : a + q = h := by omega
   have q2 : u ≤ q ∧ q < v := by omega
   obtain ⟨x, hx⟩ : ∃ x, l.getD q zR = x := ⟨_, rfl⟩
   have hcx := HRD.out q h (by omega) q1
   rw [hx] at hcx
   have hfx : fine x := by rw [← hx, kV l zR (by rw [HL.out]; omega)]; exact HF.out _ (List.getElem_mem _)
   obtain ⟨y0, y1, y2, y3, y4, y5, y6, y7, y8, y9⟩ := HR.out.at5 HCY.out
   obtain ⟨x0, x1, x2, x3, x4, x5, x6, x7, x8, x9⟩ := HR.out.at5 hcx
   have HX := Lib.hid hx
   have HQ := Lib.hid q1
   have p0 : (0 : Int) ≤ (h : Int) := by omega
   have p1 : (h : Int) < (N : Int) := by omega
   have p2 : (0 : Int) ≤ (m : Int) := by omega
   have p3 : (m : Int) < (N : Int) := by omega
   clear hq q1 hx hcx
   go_wp2_with fail
   go_still_tail 9, (by kernel_rfl)
   change wpList _ _ _ _ _ wr.drew
   clear x0 x1 x2 x3 x4 x5 x6 x7 x8 x9 y0 y1 y2 y3 y4 y5 y6 y7 y8 y9
   have HR1 := Lib.hid HR.out.drew
   have hcall := qU HFY.out hfx wr.drew
   clear HR hfx
   generalize wr.drew = wd at HR1 hcall
   have HCALL := Lib.hid hcall
   clear hcall
   go_wp2_with fail
   refine (HCALL.out).mono ?_
   rintro en w4 ⟨rfl, hb4⟩
   have HR := Lib.hid (HR1.out.below hb4)
   clear hb4 HR1 HCALL
   obtain ⟨o, ho⟩ : ∃ o, bG y x = o := ⟨_, rfl⟩
   rw [ho]
   have HO := Lib.hid ho
   clear ho
   by_cases hlv : o < 0
   ·have HC2 := Lib.hid (HC.out.no (HM.out) q2.1 q2.2 (by rw [HX.out, HO.out]; omega))
    go_wp2_with fail
    go_roundg (q - u)
    case measure => omega
    case rel => exact ⟨i, h, u, q, rfl, rfl, i1, i2, by have := HQ.out; omega, by have := HQ.out; omega, q2.1, by omega, Nat.le_refl _, HC2, HR⟩
   ·obtain ⟨h1', hh1⟩ : ∃ h1', h + 1 = h1' := ⟨_, rfl⟩
    rw [hh1] at k5
    have hh2 : h + 1 ≤ h1' ∧ h1' ≤ h + 1 := by omega
    have HC2 := Lib.hid (HC.out.yes (HM.out) q2.1 q2.2 (by rw [HX.out, HO.out]; omega))
    have hlv' : decide (o < 0) = false := decide_eq_false hlv
    clear hh1
    go_wp2_with fail
    go_roundg (v - (q + 1))
    case measure => omega
    case rel => exact ⟨h1', j, q + 1, v, rfl, rfl, by have := HQ.out; omega, by have := HQ.out; omega, j1, j2, by omega, hv, Nat.le_refl _, HC2, HR⟩
  ·have hltz : ¬ (i : Int) < (j : Int) := by omega
   obtain rfl : u = v := by omega
   have HD := Lib.hid (FH jA zR y HS.out (i := u) HC.out)
   obtain ⟨p1, hp1⟩ : ∃ p1, p ++ l.take u = p1 := ⟨_, rfl⟩
   obtain ⟨v1, hv1⟩ : ∃ v1, l.drop u = v1 := ⟨_, rfl⟩
   have hul : u ≤ l.length := by rw [HL.out]; exact hv
   have hvl : v1.length = A - u := by rw [← hv1, List.length_drop, HL.out]
   have HPL : Hid (p1.length = a + u) := Lib.hid (by rw [← hp1, List.length_append, List.length_take, HA.out]; omega)
   have hcur : p ++ (l ++ ([y] ++ s)) = p1 ++ (v1.take (A - u) ++ y :: (v1.drop (A - u) ++ s)) := by
    rw [List.take_of_length_le (by omega), List.drop_of_length_le (by omega), ← hp1, ← hv1, List.nil_append, List.append_assoc, ← List.append_assoc (l.take u), List.take_append_drop]; rfl
   rw [hcur] at HR
   have HFIN : Hid (p ++ ((l.take u ++ y :: v1) ++ s) = p1 ++ (y :: (v1 ++ s))) := Lib.hid (by rw [← hp1]; simp)
   rw [hv1] at HD
   have HVL := Lib.hid hvl
   have HLL : Hid ((l.take u).length + v1.length = l.length) := Lib.hid (by rw [hvl, List.length_take, HL.out]; omega)
   have hAu : a + u + (A - u) ≤ m ∧ m ≤ a + u + (A - u) := by omega
   obtain ⟨B, hB⟩ : ∃ B, A - u = B := ⟨_, rfl⟩
   rw [hB] at HR hAu HVL
   clear HC hcur hp1 hv1 hvl hul HM HF HRD HCY HS hB HA
   go_wp2_with fail
   go_loopg [17] B (fun kx sk wr => ∃ (k q : Nat), sk = .int .i64 (k : Int) ∧ k ≤ a + u + q ∧ a + u + q ≤ k ∧ q ≤ B ∧ q ≤ kx ∧ Hid (Own w0 base g c rest wr (p1 ++ (v1.take q ++ y :: (v1.drop q ++ s)))))
   case atStart => exact ⟨m, B, rfl, by omega, by omega, by omega, by omega, HR⟩
   case round =>
    clear HR
    obtain ⟨k, q, rfl, k1, k2, hq, hkq, HR⟩ := hrel
    by_cases hlt : 0 < q
    ·obtain ⟨q, rfl⟩ : ∃ q', q = q' + 1 := ⟨q - 1, by omega⟩
     obtain ⟨k', rfl⟩ : ∃ k', k = k' + 1 := ⟨k - 1, by omega⟩
     obtain ⟨x, hx, hy, hs⟩ := CU p1 v1 s y (k := k') (q := q) (by rw [HVL.out]; exact hq) (by rw [HPL.out]; omega)
     obtain ⟨k, hk'⟩ : ∃ k, k' + 1 = k := ⟨_, rfl⟩
     have ek : IntKind.i64.wrap ((k : Int) - 1) = (k' : Int) := iV (by omega) (by omega)
     obtain ⟨cur, hc⟩ : ∃ cur, p1 ++ (v1.take (q + 1) ++ y :: (v1.drop (q + 1) ++ s)) = cur := ⟨_, rfl⟩
     rw [hk'] at hy hs k1 k2 ⊢
     rw [hc] at hx hy hs HR
     have HS2 := Lib.hid (HR.out.swap hy hx).drew
     rw [hs] at HS2
     obtain ⟨D2, hy2⟩ := HR.out.next x (List.getElem?_eq_some_iff.1 hy).1 hx (show k ≠ k' by omega)
     obtain ⟨x0, x1, x2, x3, x4, x5, x6, x7, x8, x9⟩ := HR.out.at5 hx
     obtain ⟨y0, y1, y2, y3, y4, y5, y6, y7, y8, y9⟩ := HR.out.at5 hy
     obtain ⟨z0, z1, z2, z3, z4, z5, z6, z7, z8, z9⟩ := D2.at5 hy2
     have hltz : (i : Int) < (k : Int) := by omega
     have p0 : (0 : Int) ≤ (k : Int) := by omega
     have p1 : (k : Int) < (N : Int) := by omega
     have p2 : (0 : Int) ≤ (k' : Int) := by omega
     have p3 : (k' : Int) < (N : Int) := by omega
     have k3 : k' ≤ a + u + q ∧ a + u + q ≤ k' := by omega
     clear HR D2 hy2 hx hy hs hc hk'
     go_wp2_with fail
     go_big_region
     all_goals go_wp2
     go_roundg q
     case measure => omega
     case rel => exact ⟨k', q, rfl, k3.1, k3.2, by omega, Nat.le_refl _, HS2⟩
    ·have hltz : ¬ (i : Int) < (k : Int) := by omega
     obtain rfl : q = 0 := by omega
     have hr := HR.out
     rw [List.take_zero, List.drop_zero, List.nil_append, ← HFIN.out] at hr
     have HR2 := Lib.hid hr
     clear hr HR
     go_wp2_with fail
     refine bodyPost_ret (results_none rfl _ _ _) rfl ?_
     exact ⟨rfl, _, HD.out, by have := HLL.out; simp at this ⊢; omega, HR2.out⟩
end Go.Y.Rrs
namespace Go.Y.Rrs
open Go.Proofs.aj.aC Go.Proofs.aj.aT Go.Proofs.aj.aV Go.Y.Given Go.Y.PRd Go.Y.PRr Go.Y.dJ
theorem Hg {w0 : World} {base g c : Nat} {rest : List Value} (l : List RR) (hn : l.length ≤ 1000000) (a b n : Nat) (h1 : a + n ≤ b) (h2 : b + n ≤ l.length) (w : World) (HO : Own w0 base g c rest w l) :
  Calls Tryz.prog 162 #[.slice (some ⟨g, 0, none⟩) l.length c, .int .i64 (a : Int), .int .i64 (b : Int), .int .i64 (n : Int), oD] w fun e w' => e = .returned (.tuple #[]) ∧ Own w0 base g c rest w' (swR l a b n) := by
 have hu22 := Tryz.underlying22
 have hu41 := Tryz.underlying28
 have HR := Lib.hid HO
 obtain ⟨N, hN⟩ : ∃ N, l.length = N := ⟨_, rfl⟩
 have HN := Lib.hid hN
 rw [hN] at hn h2 ⊢
 clear HO hN
 go_enter Tryz.func162, Tryz.ntmps162
 go_wp2_with fail
 go_loopg [10] n (fun kx s wr => ∃ i : Nat, s = .int .i64 (i : Int) ∧ i ≤ n ∧ n - i ≤ kx ∧ Hid (Own w0 base g c rest wr (swR l a b i)))
 case atStart => exact ⟨0, rfl, by omega, by omega, HR⟩
 case round =>
  clear HR
  obtain ⟨i, rfl, hi, hk, HR⟩ := hrel
  by_cases hlt : i < n
  ·obtain ⟨cur, hc⟩ : ∃ cur, swR l a b i = cur := ⟨_, rfl⟩
   rw [hc] at HR
   have hl : cur.length = N := by rw [← hc, kE, HN.out]
   obtain ⟨x, hx⟩ := qx (show a + i < cur.length by omega)
   obtain ⟨y, hy⟩ := qx (show b + i < cur.length by omega)
   have eA : IntKind.i64.wrap ((a : Int) + (i : Int)) = ((a + i : Nat) : Int) := iV (by omega) (by omega)
   have eB : IntKind.i64.wrap ((b : Int) + (i : Int)) = ((b + i : Nat) : Int) := iV (by omega) (by omega)
   obtain ⟨p, hp⟩ : ∃ p, a + i = p := ⟨_, rfl⟩
   obtain ⟨q, hq⟩ : ∃ q, b + i = q := ⟨_, rfl⟩
   rw [hp] at eA hx
   rw [hq] at eB hy
   have hs : (cur.set p y).set q x = swR l a b (i + 1) := by rw [swR, hp, hq, hc]; unfold sw; rw [hx, hy]
   have HS := Lib.hid (HR.out.swap hx hy).drew
   rw [hs] at HS
   obtain ⟨D2, hy2⟩ := HR.out.next y (by omega) hy (show p ≠ q by omega)
   obtain ⟨x0, x1, x2, x3, x4, x5, x6, x7, x8, x9⟩ := HR.out.at5 hx
   obtain ⟨y0, y1, y2, y3, y4, y5, y6, y7, y8, y9⟩ := HR.out.at5 hy
   obtain ⟨z0, z1, z2, z3, z4, z5, z6, z7, z8, z9⟩ := D2.at5 hy2
   clear HR hc hx hy D2 hy2 hs
   have p1 : (p : Int) < (N : Int) := by omega
   have q1 : (q : Int) < (N : Int) := by omega
   have hltz : (i : Int) < (n : Int) := by omega
   have p0 : (0 : Int) ≤ (p : Int) := by omega
   have q0 : (0 : Int) ≤ (q : Int) := by omega
   go_wp2_with fail
   go_big_region
   all_goals go_wp2
   go_roundg (n - (i + 1))
   case measure => omega
   case rel => exact ⟨i + 1, by first | rfl | go_num, by omega, Nat.le_refl _, HS⟩
  ·go_wp2_with fail
   go_end0
   obtain rfl : i = n := by omega
   exact ⟨rfl, HR.out⟩
end Go.Y.Rrs
namespace Go.Y.Rrs
open Go.Proofs.aj.aC Go.Proofs.aj.aT Go.Proofs.aj.aV Go.Y.Given Go.Y.PRd Go.Y.PRr Go.Y.dJ
theorem Hq {w0 : World} {base g c : Nat} {rest : List Value} (p u v s : List RR) (hu : 0 < u.length) (hv : 0 < v.length) (hn : (p ++ (u ++ (v ++ s))).length ≤ 1000000) {N a m b : Nat} (hN : (p ++ (u ++ (v ++ s))).length = N) (ha : p.length = a) (hm : p.length + u.length = m) (hb : m + v.length = b) (w : World) (HO : Own w0 base g c rest w (p ++ (u ++ (v ++ s)))) :
  Calls Tryz.prog 139 #[.slice (some ⟨g, 0, none⟩) N c, .int .i64 (a : Int), .int .i64 (m : Int), .int .i64 (b : Int), oD] w fun e w' => e = .returned (.tuple #[]) ∧ Own w0 base g c rest w' (p ++ (v ++ (u ++ s))) := by
 have hl : (p ++ (u ++ (v ++ s))).length = p.length + u.length + v.length + s.length := by simp; omega
 have HR := Lib.hid HO
 have HF := Lib.hid (fun l' => Eu (p := p) (u := u) (v := v) (s := s) (l' := l'))
 rw [hm] at HF
 obtain ⟨l, hL⟩ : ∃ l, p ++ (u ++ (v ++ s)) = l := ⟨_, rfl⟩
 rw [hN] at hl hn
 rw [hL] at HR HF hN
 have e1 : IntKind.i64.wrap ((m : Int) - (a : Int)) = (u.length : Int) := iV (by omega) (by omega)
 have e2 : IntKind.i64.wrap ((b : Int) - (m : Int)) = (v.length : Int) := iV (by omega) (by omega)
 obtain ⟨A, hA⟩ : ∃ A, u.length = A := ⟨_, rfl⟩
 obtain ⟨B, hB⟩ : ∃ B, v.length = B := ⟨_, rfl⟩
 rw [hA] at e1 HF hu hm
 rw [hB] at e2 HF hv hb
 have hmb : A ≤ m ∧ m + B ≤ N ∧ N ≤ 1000000 := by omega
 have HL := Lib.hid hN
 clear HO hL ha hA hB hN hl
 go_enter Tryz.func139, Tryz.ntmps139
 go_wp2_with fail
 go_loopg [10, 11] (A + B) (fun kx si sj wr => ∃ (i j : Nat) (cur : List RR), si = .int .i64 (i : Int) ∧ sj = .int .i64 (j : Int) ∧ 0 < i ∧ 0 < j ∧ i ≤ m ∧ m + j ≤ N ∧ i + j ≤ kx ∧ Hid (cur.length = N) ∧ Hid (∀ l', Rot cur l' m i j → Rot l l' m A B) ∧ Hid (Own w0 base g c rest wr cur))
 case atStart => exact ⟨A, B, l, rfl, rfl, hu, hv, hmb.1, hmb.2.1, Nat.le_refl _, HL, Lib.hid (fun l' h => h), HR⟩
 case round =>
  clear HR HL
  obtain ⟨i, j, cur, rfl, rfl, hi, hj, him, hjn, hk, HL, HT, HR⟩ := hrel
  have e3 : IntKind.i64.wrap ((m : Int) - (i : Int)) = ((m - i : Nat) : Int) := iV (by omega) (by omega)
  have hln : cur.length ≤ 1000000 := by rw [HL.out]; omega
  have hs := fun x y z w h1 h2 h => Hg (w0 := w0) (base := base) (g := g) (c := c) (rest := rest) cur hln x y z h1 h2 w h
  rw [HL.out] at hs
  have HS := Lib.hid hs
  clear hs hln
  by_cases h0 : i = j
  ·subst h0
   go_wp2_with fail
   refine (HS.out (m - i) m i wr (by omega) (by omega) HR.out).mono ?_
   rintro e w' ⟨rfl, hw⟩
   rw [HF.out _ (HT.out _ (Jg cur m i him (by rw [HL.out]; exact hjn)))] at hw
   have HW := Lib.hid hw
   clear hw
   go_wp2_with fail
   go_end0
   exact ⟨rfl, HW.out⟩
  ·have h0z : ¬ ((i : Int) = (j : Int)) := by omega
   by_cases h1 : j < i
   ·have h1z : (j : Int) < (i : Int) := by omega
    have e4 : IntKind.i64.wrap ((i : Int) - (j : Int)) = ((i - j : Nat) : Int) := iV (by omega) (by omega)
    go_wp2_with fail
    refine (HS.out (m - i) m j wr (by omega) (by omega) HR.out).mono ?_
    rintro e w' ⟨rfl, hw⟩
    have HW := Lib.hid hw
    clear hw
    go_wp2_with fail
    go_roundg (i - j + j)
    case measure => omega
    case rel => exact ⟨i - j, j, _, rfl, rfl, by omega, hj, by omega, hjn, Nat.le_refl _, Lib.hid ((kE _ _ _ _).trans HL.out), Lib.hid (fun l' h => HT.out _ (Hl h1 him (by rw [HL.out]; exact hjn) h)), HW⟩
   ·have h1z : ¬ (j : Int) < (i : Int) := by omega
    have e4 : IntKind.i64.wrap ((j : Int) - (i : Int)) = ((j - i : Nat) : Int) := iV (by omega) (by omega)
    have e5 : IntKind.i64.wrap ((m : Int) + (j : Int)) = ((m + j : Nat) : Int) := iV (by omega) (by omega)
    have e6 : IntKind.i64.wrap (((m + j : Nat) : Int) - (i : Int)) = ((m + j - i : Nat) : Int) := iV (by omega) (by omega)
    obtain ⟨q, hq⟩ : ∃ q, m + j = q := ⟨_, rfl⟩
    rw [hq] at e5 e6
    go_wp2_with fail
    refine (HS.out (m - i) (q - i) i wr (by omega) (by omega) HR.out).mono ?_
    rintro e w' ⟨rfl, hw⟩
    have HW := Lib.hid hw
    clear hw
    go_wp2_with fail
    go_roundg (i + (j - i))
    case measure => omega
    case rel => exact ⟨i, j - i, _, rfl, rfl, hi, by omega, him, by omega, Nat.le_refl _, Lib.hid ((kE _ _ _ _).trans HL.out), Lib.hid (fun l' h => HT.out _ (Gc (by omega) him (by rw [HL.out]; exact hjn) (by rw [hq]; exact h))), HW⟩
end Go.Y.Rrs
