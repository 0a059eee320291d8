/- Contracts and facts that the claim's row is drawn from, each with its own conditions. -/
import Derived.Test.YtehdkopjgcoclaaJoined2
import Derived.Shelf.Spec.SlicesInsert
import Derived.Lib.AppendZerosOnto
import Derived.Laws.CopyRow
import Derived.Deep.QuietTactic
import Derived.BigQuiet
import Derived.Deep.LoopGhost
import Derived.BigRegion
import Derived.StillTailTactics
import Derived.Outline
namespace Go.Proofs.Ytehdkopjgcoclaa.Rrs
open Go.RowKit Go.Proofs.YtehdkopjgcoclaaW.PrintWords Go.Proofs.YtehdkopjgcoclaaW.PrintLast Go.Proofs.YtehdkopjgcoclaaW.PrintMore Go.Proofs.Ytehdkopjgcoclaa.Given Go.Proofs.Ytehdkopjgcoclaa.PRd Go.Proofs.Ytehdkopjgcoclaa.PRr
set_option linter.unusedVariables false
set_option linter.unusedSimpArgs false
abbrev tRR : Nat := 33
def cellsR (x : RR) : List Value := [.string x.f0, .int .i64 x.f1, .int .i64 x.f2, .int .i64 x.f3, .string x.f4]
def flat : List RR → List Value
  | [] => []
  | x :: l => cellsR x ++ flat l
theorem cellsR_length (x : RR) : (cellsR x).length = 5 := rfl
theorem flat_length : ∀ l, (flat l).length = l.length * 5
  | [] => rfl
  | x :: l => by rw [flat, List.length_append, flat_length l, cellsR_length, List.length_cons]; omega
theorem flat_append : ∀ a b, flat (a ++ b) = flat a ++ flat b
  | [], b => rfl
  | x :: a, b => by rw [List.cons_append, flat, flat, flat_append a b, List.append_assoc]
theorem flat_take (l : List RR) (i : Nat) (hi : i ≤ l.length) : (flat l).take (i * 5) = flat (l.take i) := by
  conv => lhs; rw [← List.take_append_drop i l, flat_append]
  rw [List.take_append_of_le_length (by rw [flat_length, List.length_take]; omega), List.take_of_length_le (by rw [flat_length, List.length_take]; omega)]
theorem flat_drop (l : List RR) (i : Nat) (hi : i ≤ l.length) : (flat l).drop (i * 5) = flat (l.drop i) := by
  conv => lhs; rw [← List.take_append_drop i l, flat_append]
  rw [List.drop_append_of_le_length (by rw [flat_length, List.length_take]; omega), List.drop_of_length_le (by rw [flat_length, List.length_take]; omega), List.nil_append]
theorem flat_one : ∀ (l : List RR), ∀ v ∈ flat l, v.oneCell' = true
  | [], v, h => by cases h
  | x :: l, v, h => by
    rcases List.mem_append.1 h with h | h
    · simp only [cellsR, List.mem_cons, List.not_mem_nil, or_false] at h
      rcases h with rfl | rfl | rfl | rfl | rfl <;> rfl
    · exact flat_one l v h
theorem reps_flat {R : RR → List Value → Prop} (hR : ∀ x cs, R x cs → cs = cellsR x) : ∀ (l : List RR) (inner : List Value), Reps R 5 l inner → inner = flat l
  | [], inner, h => List.eq_nil_of_length_eq_zero (by simpa using h.1)
  | x :: l, inner, h => by
    have h0 := hR _ _ (h.2 0 x rfl)
    simp only [Nat.zero_mul, List.drop_zero] at h0
    have h1 : Reps R 5 l (inner.drop 5) := ⟨by rw [List.length_drop, h.1, List.length_cons]; omega, fun j p hj => by
      rw [List.drop_drop, show 5 + j * 5 = (j + 1) * 5 by omega]; exact h.2 (j + 1) p (by simpa using hj)⟩
    rw [flat, ← h0, ← reps_flat hR l _ h1, List.take_append_drop]
theorem flat_reps {R : RR → List Value → Prop} (hR : ∀ x, R x (cellsR x)) (l : List RR) : Reps R 5 l (flat l) := by
  refine ⟨flat_length l, fun j p hj => ?_⟩
  obtain ⟨hl, e⟩ := List.getElem?_eq_some_iff.1 hj
  rw [flat_drop l j (by omega), List.drop_eq_getElem_cons hl, e, flat, List.take_append_of_le_length (by rw [cellsR_length]; exact Nat.le_refl 5), List.take_of_length_le (by rw [cellsR_length]; exact Nat.le_refl 5)]
  exact hR p
structure Row (w : World) (base g cap : Nat) (l : List RR) (rest : List Value) : Prop where
  blk : w.heap[g]? = some (.cells (flat l ++ rest).toArray tRR (0, 0))
  lo : base ≤ g
  fits : cap ≤ maxLen
  len : l.length * 5 + rest.length = cap * 5
theorem Row.of_R {w : World} {base : Nat} {ok : Nat → Prop} {v : Value} {l : List RR} (h : Kd.R kRR tRR w base ok v l) : (v = .slice none 0 0 ∧ l = []) ∨ ∃ g cap rest, v = .slice (some ⟨g, 0, none⟩) l.length cap ∧ ok g ∧ Row w base g cap l rest := by
  obtain ⟨h0, inner, ⟨h1, h2⟩, hr⟩ := h
  obtain rfl := reps_flat (fun x cs h => k33_openM h) l inner hr
  rcases h2 with ⟨rfl, h2⟩ | ⟨g, cap, cur, rfl, hg, hb, hn, hc, hs, ht⟩
  · exact .inl ⟨rfl, List.eq_nil_of_length_eq_zero h2⟩
  · have hs' : cur.size = cap * 5 := hs
    have hn' : l.length ≤ cap := hn
    have ht' : cur.toList.take (l.length * 5) = flat l := ht
    refine .inr ⟨g, cap, cur.toList.drop (l.length * 5), rfl, h0 g (by simp [Value.ownBlock]), ⟨?_, hg, hc, ?_⟩⟩
    · rw [← ht', List.take_append_drop, Array.toArray_toList]; exact hb
    · have e : cur.toList.length = cap * 5 := by simpa using hs'
      rw [List.length_drop, e]; clear h1 hr h0 hb hs ht hn ht'; omega
theorem Row.R {w : World} {base g cap : Nat} {l : List RR} {rest : List Value} {ok : Nat → Prop} (h : Row w base g cap l rest) (hg : ok g) : Kd.R kRR tRR w base ok (.slice (some ⟨g, 0, none⟩) l.length cap) l := by
  have hl := h.len
  refine ⟨fun k hk => by simp [Value.ownBlock] at hk; subst hk; exact hg, flat l, ⟨flat_length l, .inr ⟨g, cap, _, rfl, h.lo, h.blk, by omega, h.fits, ?_, ?_⟩⟩, flat_reps (fun x => k33_mkM _ _ _ x) l⟩
  · show (flat l ++ rest).toArray.size = cap * 5
    simp [flat_length]; omega
  · show (flat l ++ rest).toArray.toList.take (l.length * 5) = flat l
    rw [List.toList_toArray, List.take_append_of_le_length (by rw [flat_length]; exact Nat.le_refl _), List.take_of_length_le (by rw [flat_length]; exact Nat.le_refl _)]
theorem Row.cell {w : World} {base g cap : Nat} {l : List RR} {rest : List Value} (h : Row w base g cap l rest) (j : Nat) (u : Value) (hj : (flat l)[j]? = some u) : w.cell? ⟨g, j, none⟩ = some u := by
  rw [blk_cell h.blk j]
  have hl := (List.getElem?_eq_some_iff.1 hj).1
  show (flat l ++ rest).toArray[j]? = some u
  rw [List.getElem?_toArray, List.getElem?_append_left hl]; exact hj
theorem infoRR_ : (Try.prog.info? 33).map (fun i => (i.zero, i.size, i.bytes)) = some (some (.agg #[.string ⟨#[]⟩, .int .i64 0, .int .i64 0, .int .i64 0, .string ⟨#[]⟩]), 5, 56) := by kernel_rfl
theorem info_parts_RR : ∃ i0, Try.prog.info? 33 = some i0 ∧ i0.zero = some (.agg #[.string ⟨#[]⟩, .int .i64 0, .int .i64 0, .int .i64 0, .string ⟨#[]⟩]) ∧ i0.size = 5 ∧ i0.bytes = 56 := by
  obtain ⟨i0, hi, h⟩ := Option.map_eq_some_iff.1 infoRR_
  simp only [Prod.mk.injEq] at h
  exact ⟨i0, hi, h.1, h.2.1, h.2.2⟩
abbrev zRR : Value := .agg #[.string ⟨#[]⟩, .int .i64 0, .int .i64 0, .int .i64 0, .string ⟨#[]⟩]
theorem set_block {w : World} {g : Nat} {cur : List Value} (h : w.heap[g]? = some (.cells cur.toArray tRR (0, 0))) (k : Nat) (v : Value) : (w.setCell ⟨g, k, none⟩ v).heap[g]? = some (.cells (cur.set k v).toArray tRR (0, 0)) := by
  rw [setCell_eq_setRow w g k cur.toArray tRR (0, 0) v h, setRow_heap w g _ _ _ _ h]
  simp
theorem flat_set (a0 a1 a2 a3 a4 : Value) (x : RR) (hx : cellsR x = [a0, a1, a2, a3, a4]) : ∀ (l : List RR) (rest : List Value) (p : Nat), p < l.length →
    (((((flat l ++ rest).set (p * 5) a0).set (p * 5 + 1) a1).set (p * 5 + 2) a2).set (p * 5 + 3) a3).set (p * 5 + 4) a4 = flat (l.set p x) ++ rest
  | [], _, p, h => by simp at h
  | y :: l, rest, 0, _ => by
    show _ = cellsR x ++ flat l ++ rest
    rw [hx]
    rfl
  | y :: l, rest, p + 1, h => by
    have ih := flat_set a0 a1 a2 a3 a4 x hx l rest p (by simpa using h)
    show _ = cellsR y ++ flat (l.set p x) ++ rest
    rw [List.append_assoc, ← ih]
    have e : (p + 1) * 5 = p * 5 + 5 := by omega
    rw [e]
    rfl
theorem Row.put {w : World} {base g cap : Nat} {l : List RR} {rest : List Value} (h : Row w base g cap l rest) (x : RR) (p : Nat) (hp : p < l.length) (a0 a1 a2 a3 a4 : Value) (hx : cellsR x = [a0, a1, a2, a3, a4]) :
    Row (((((w.setCell ⟨g, p * 5, none⟩ a0).setCell ⟨g, p * 5 + 1, none⟩ a1).setCell ⟨g, p * 5 + 2, none⟩ a2).setCell ⟨g, p * 5 + 3, none⟩ a3).setCell ⟨g, p * 5 + 4, none⟩ a4) base g cap (l.set p x) rest := by
  have hb := set_block (set_block (set_block (set_block (set_block h.blk (p * 5) a0) (p * 5 + 1) a1) (p * 5 + 2) a2) (p * 5 + 3) a3) (p * 5 + 4) a4
  rw [flat_set a0 a1 a2 a3 a4 x hx l rest p hp] at hb
  exact ⟨hb, h.lo, h.fits, by rw [List.length_set]; exact h.len⟩
end Go.Proofs.Ytehdkopjgcoclaa.Rrs
namespace Go.Proofs.Ytehdkopjgcoclaa.Rrs
open Go.RowKit Go.Proofs.YtehdkopjgcoclaaW.PrintWords Go.Proofs.YtehdkopjgcoclaaW.PrintLast Go.Proofs.YtehdkopjgcoclaaW.PrintMore Go.Proofs.Ytehdkopjgcoclaa.Given Go.Proofs.Ytehdkopjgcoclaa.PRd Go.Proofs.Ytehdkopjgcoclaa.PRr
set_option linter.unusedVariables false
set_option linter.unusedSimpArgs false
set_option maxHeartbeats 8000000 in
set_option maxRecDepth 100000 in
theorem those_any (l : List RR) (pr : RR → Bool) (hn : l.length ≤ 1000000) (F : FuncId) (fn : Func) (cb : Array Value) (hf : Try.prog.funcs[F]? = some fn) (hname : (fn.name == "runtime.NumGoroutine") = false) (hb : fn.body.isSome = true) (A0 : Option Addr) (c0 : Nat) (w : World) (hC : Kd.C kRR w A0 l.length l)
    (hstep : ∀ x ∈ l, ∀ W, Below w.heap.size w W → Calls Try.prog F (#[x.v] ++ cb) W fun e w' => e = .returned (.bool (pr x)) ∧ Below W.heap.size W w') :
    Calls Try.prog 47 #[.slice A0 l.length c0, .func (.func F) #[] cb] w fun e w' => ∃ v0_ : Value, e = .returned v0_ ∧ Kd.R kRR 33 w' w.heap.size (fun _ => True) v0_ (l.filter pr) ∧ Below w.heap.size w w' := by
  have hu41 := Try.underlying33
  have HF := Lib.hid hf
  have HNM := Lib.hid hname
  have HBD := Lib.hid hb
  have HR := Lib.hid hC
  have HST := Lib.hid hstep
  obtain ⟨n, hnn⟩ : ∃ n, l.length = n := ⟨_, rfl⟩
  have HN := Lib.hid hnn
  rw [hnn] at hn ⊢
  have HB := Lib.hid (Below.refl w.heap.size w)
  clear hf hname hb hC hstep hnn
  go_enter Try.func47, Try.ntmps47
  go_wp2_with fail
  go_loopg [5, 10] n (fun kx s5 s10 wr => ∃ i : Nat, s10 = .int .i64 (i : Int) ∧ i ≤ n ∧ n - i ≤ kx ∧ Hid (Kd.R kRR 33 wr w.heap.size (fun _ => True) s5 ((l.take i).filter pr)) ∧ Hid (Below w.heap.size w wr))
  case atStart => exact ⟨0, rfl, by omega, by omega, Lib.hid (Kd.R_nil _ _ _ _ _), Lib.hid HB.out⟩
  case round =>
    clear HB
    obtain ⟨i, rfl, hin, hik, HO, HB⟩ := hrel
    by_cases hlt : i < n
    · have p1 : (0 : Int) ≤ (i : Int) := by omega
      have q1 : (i : Int) < (l.length : Int) := by rw [HN.out]; omega
      obtain ⟨ad, e1, hx0, hx1, hx2, hx3, hx4⟩ := at_T33 HR.out (i : Int) p1 q1
      cases e1
      rw [Int.toNat_natCast] at hx0 hx1 hx2 hx3 hx4
      replace hx0 := (HB.out.cell (World.block_lt_of_cell? w _ hx0)).trans hx0
      replace hx1 := (HB.out.cell (World.block_lt_of_cell? w _ hx1)).trans hx1
      replace hx2 := (HB.out.cell (World.block_lt_of_cell? w _ hx2)).trans hx2
      replace hx3 := (HB.out.cell (World.block_lt_of_cell? w _ hx3)).trans hx3
      replace hx4 := (HB.out.cell (World.block_lt_of_cell? w _ hx4)).trans hx4
      have q2 : (i : Int) < (n : Int) := by omega
      obtain ⟨x, hx⟩ : ∃ x, rdR l (i : Nat) = x := ⟨_, rfl⟩
      rw [show rd_T33 l (i : Int) = x from hx] at hx0 hx1 hx2 hx3 hx4
      have hxl : x = l[i]'(by rw [HN.out]; exact hlt) := by rw [← hx, rdR_get l i (by rw [HN.out]; exact hlt)]
      have hxm : x ∈ l := by rw [hxl]; exact List.getElem_mem _
      have HX := Lib.hid hxl
      have HXM := Lib.hid hxm
      have hw1 : IntKind.i64.wrap ((i : Int) + 1) = (i : Int) + 1 := by rw [IntKind.wrap_i64]; omega
      clear hxm hxl hx q1
      go_wp2_with fail
      rw [enters_ HF.out HNM.out HBD.out, Oper.upon_enter]
      have hB1 : Below w.heap.size w (wr.alloc (.cells #[.string x.f0, .int .i64 x.f1, .int .i64 x.f2, .int .i64 x.f3, .string x.f4] 33)) := below_alloc HB.out _
      have hO1 := Kd.R_alloc HO.out (.cells #[.string x.f0, .int .i64 x.f1, .int .i64 x.f2, .int .i64 x.f3, .string x.f4] 33)
      have hk : (wr.alloc (.cells #[.string x.f0, .int .i64 x.f1, .int .i64 x.f2, .int .i64 x.f3, .string x.f4] 33)).heap[wr.heap.size]? = some (.cells #[.string x.f0, .int .i64 x.f1, .int .i64 x.f2, .int .i64 x.f3, .string x.f4] 33 (0, 0)) := by show (wr.heap.push _)[wr.heap.size]? = _; simp
      have hgz : wr.heap.size < (wr.alloc (.cells #[.string x.f0, .int .i64 x.f1, .int .i64 x.f2, .int .i64 x.f3, .string x.f4] 33)).heap.size := by show _ < (wr.heap.push _).size; simp
      generalize wr.alloc (.cells #[.string x.f0, .int .i64 x.f1, .int .i64 x.f2, .int .i64 x.f3, .string x.f4] 33) = w1 at hB1 hO1 hk hgz ⊢
      generalize wr.heap.size = gb at hk hgz ⊢
      have hcall := HST.out x HXM.out w1 hB1
      refine hcall.mono ?_
      rintro e w4 ⟨rfl, hb4⟩
      have hk4 : w4.heap[gb]? = _ := (hb4.block gb hgz).trans hk
      have HB4 := Lib.hid (below_then hB1 hB1.size hb4)
      have HO4 := Lib.hid (Kd.R_below hO1 hb4)
      clear hb4 HB HO hB1 hO1 hk hgz hcall hx0 hx1 hx2 hx3 hx4
      have hx0 : w4.cell? ⟨gb, 0, none⟩ = some (.string x.f0) := by simp [World.cell?, hk4]
      have hx1 : w4.cell? ⟨gb, 1, none⟩ = some (.int .i64 x.f1) := by simp [World.cell?, hk4]
      have hx2 : w4.cell? ⟨gb, 2, none⟩ = some (.int .i64 x.f2) := by simp [World.cell?, hk4]
      have hx3 : w4.cell? ⟨gb, 3, none⟩ = some (.int .i64 x.f3) := by simp [World.cell?, hk4]
      have hx4 : w4.cell? ⟨gb, 4, none⟩ = some (.string x.f4) := by simp [World.cell?, hk4]
      have HSTEP := Lib.hid (show (l.take (i + 1)).filter pr = (l.take i).filter pr ++ (if pr x = true then [x] else []) by
        rw [List.take_add_one, List.getElem?_eq_getElem (by rw [HN.out]; exact hlt), List.filter_append]
        congr 1
        rw [HX.out]
        simp only [Option.toList_some, List.filter_cons, List.filter_nil])
      clear hk4
      generalize hd : pr x = d at HSTEP
      clear hd
      cases d with
      | true =>
        go_wp2_with (first | ((with_reducible refine gate_builtin (b := .append) (xs := #[.tmp 17, .tmp 19]) rfl ?_); at_builtin; refine Kd.R_append k33 (w0 := w) w.heap.size rfl (.tmp 17) (.tmp 19) 24 33 (.agg #[(.string ⟨#[]⟩), (.int .i64 0), (.int .i64 0), (.int .i64 0), (.string ⟨#[]⟩)]) 56 rfl Try.underlying24 info33 rfl (by decide) (by omega) u5 ((l.take i).filter pr) x [.string x.f0, .int .i64 x.f1, .int .i64 x.f2, .int .i64 x.f3, .string x.f4] (fun _ => True) (fun _ => False) rfl rfl ?aP (fun _ hk => hk.elim) ?aF ?aO ?aB ?aS ?aL ?_; (case aP => exact k33_mkM _ _ _ x); (case aB => exact (by repeat (first | (with_reducible first | exact HB4.out | apply below_alloc | apply pw_below_drewN | apply below_drew1) | exact HB4.out))); (case aF => exact (fun _ _ => trivial)); (case aO => exact (by (with_reducible repeat (first | apply Kd.R_alloc | apply Kd.R_drewN | apply Kd.R_drew)); exact HO4.out)); (case aS => exact (below_size (by repeat (first | (with_reducible first | exact HB4.out | apply below_alloc | apply pw_below_drewN | apply below_drew1) | exact HB4.out)))); (case aL => have h1 := List.length_filter_le pr (l.take i); have h2 := HN.out; rw [List.length_take] at h1; omega); intro v7 w7 ho hb hg hat; have n0_ := Lib.hid hb; have n1_ := Lib.hid ho; clear HB4 HO4; have HB4 := n0_; have HO4 := n1_; clear n0_ n1_ ho hb hg hat))
        go_roundg (n - (i + 1))
        case measure => omega
        case rel => exact ⟨i + 1, by rw [show ((i + 1 : Nat) : Int) = (i : Int) + 1 by omega], by omega, Nat.le_refl _, Lib.hid (by rw [HSTEP.out]; simpa using HO4.out), HB4⟩
      | false =>
        go_wp2_with fail
        go_roundg (n - (i + 1))
        case measure => omega
        case rel => exact ⟨i + 1, by rw [show ((i + 1 : Nat) : Int) = (i : Int) + 1 by omega], by omega, Nat.le_refl _, Lib.hid (by rw [HSTEP.out]; simpa using HO4.out), HB4⟩
    · obtain rfl : i = n := by omega
      have b1 : ¬ ((i : Int) < (i : Int)) := by omega
      go_wp2_with fail
      go_ret
      refine ⟨_, rfl, ?_, HB.out⟩
      have := HO.out
      rw [List.take_of_length_le (by rw [HN.out]; exact Nat.le_refl _)] at this
      exact this
end Go.Proofs.Ytehdkopjgcoclaa.Rrs
namespace Go.Proofs.Ytehdkopjgcoclaa.Rrs
open Go.RowKit Go.Proofs.YtehdkopjgcoclaaW.PrintWords Go.Proofs.YtehdkopjgcoclaaW.PrintLast Go.Proofs.YtehdkopjgcoclaaW.PrintMore Go.Proofs.Ytehdkopjgcoclaa.Given Go.Proofs.Ytehdkopjgcoclaa.PRd Go.Proofs.Ytehdkopjgcoclaa.PRr
set_option linter.unusedVariables false
set_option linter.unusedSimpArgs false
set_option maxHeartbeats 4000000 in
set_option maxRecDepth 100000 in
theorem typed_step (x : RR) (t : Int) (g : Nat) (w : World) (hc : w.cell? ⟨g, 0, none⟩ = some (.int .i64 t)) :
    Calls Try.prog 48 (#[x.v] ++ #[.pointer (some ⟨g, 0, none⟩)]) w fun e w' => e = .returned (.bool (x.f1 == t)) ∧ Below w.heap.size w w' := by
  have hu41 := Try.underlying33
  have HB := Aside0.mk (Below.refl w.heap.size w)
  have HC := Lib.hid hc
  clear hc
  show Calls Try.prog 48 #[.agg #[.string x.f0, .int .i64 x.f1, .int .i64 x.f2, .int .i64 x.f3, .string x.f4], .pointer (some ⟨g, 0, none⟩)] w _
  go_enter Try.func48, Try.ntmps48
  go_wp2_with (first | ((with_reducible refine gate_dst (N := 2) rfl ?_); refine box_event ?hg (N := 2) ?hd (cs := #[.string x.f0, .int .i64 x.f1, .int .i64 x.f2, .int .i64 x.f3, .string x.f4]) (t := 33) ?hr ?_; (case hd => rfl); (case hg => rfl); (case hr => first | (go_simp; done) | (go_simp; rfl)); intro gb hg w3 hbox hb; have n0_ := Aside0.mk (below_step (HB.out) hb); have n1_ := Aside0.mk (hbox); clear HB; have HB := n0_; have BK := n1_; have hc3 : w3.cell? ⟨g, 0, none⟩ = some (.int .i64 t) := (HB.out.cell (World.block_lt_of_cell? w _ HC.out)).trans HC.out; clear n0_ n1_; clear hb hbox hg; have hcz1 : w3.cell? ⟨gb, 1, none⟩ = some (.int .i64 x.f1) := (blk_cell BK.out 1).trans rfl))
  go_ret
  exact ⟨rfl, HB.out⟩
set_option maxHeartbeats 4000000 in
set_option maxRecDepth 100000 in
theorem at_step (x : RR) (n : ByteArray) (b : Bool) (g : Nat) (w : World) (hc : w.cell? ⟨g, 0, none⟩ = some (.string n)) (h : name_Alike.f x.f0 n = some b) :
    Calls Try.prog 58 (#[x.v] ++ #[.pointer (some ⟨g, 0, none⟩)]) w fun e w' => e = .returned (.bool b) ∧ Below w.heap.size w w' := by
  have hu41 := Try.underlying33
  have HB := Aside0.mk (Below.refl w.heap.size w)
  have HC := Lib.hid hc
  have HA := Lib.hid h
  clear hc h
  show Calls Try.prog 58 #[.agg #[.string x.f0, .int .i64 x.f1, .int .i64 x.f2, .int .i64 x.f3, .string x.f4], .pointer (some ⟨g, 0, none⟩)] w _
  go_enter Try.func58, Try.ntmps58
  go_wp2_with (first | ((with_reducible refine gate_dst (N := 2) rfl ?_); refine box_event ?hg (N := 2) ?hd (cs := #[.string x.f0, .int .i64 x.f1, .int .i64 x.f2, .int .i64 x.f3, .string x.f4]) (t := 33) ?hr ?_; (case hd => rfl); (case hg => rfl); (case hr => first | (go_simp; done) | (go_simp; rfl)); intro gb hg w3 hbox hb; have n0_ := Aside0.mk (below_step (HB.out) hb); have n1_ := Aside0.mk (hbox); clear HB; have HB := n0_; have BK := n1_; have hc3 : w3.cell? ⟨g, 0, none⟩ = some (.string n) := (HB.out.cell (World.block_lt_of_cell? w _ HC.out)).trans HC.out; clear n0_ n1_; clear hb hbox hg; have hcz0 : w3.cell? ⟨gb, 0, none⟩ = some (.string x.f0) := (blk_cell BK.out 0).trans rfl))
  refine (name_Alike.calls x.f0 n b w3 HA.out).mono ?_
  rintro e w4 ⟨rfl, hb4⟩
  have HB4 := Lib.hid (below_then HB.out HB.out.size hb4)
  clear hb4 HB
  go_wp2_with fail
  go_ret
  exact ⟨rfl, HB4.out⟩
end Go.Proofs.Ytehdkopjgcoclaa.Rrs
namespace Go.Proofs.Ytehdkopjgcoclaa.Given
open Go.RowKit Go.Proofs.YtehdkopjgcoclaaW.PrintWords Go.Proofs.YtehdkopjgcoclaaW.PrintLast Go.Proofs.YtehdkopjgcoclaaW.PrintMore Go.Proofs.Ytehdkopjgcoclaa.PRd Go.Proofs.Ytehdkopjgcoclaa.PRr Go.Proofs.Ytehdkopjgcoclaa.Rrs
set_option linter.unusedVariables false
def rrset_Typed.f (l0 : List (S33)) (a1 : Int) : Option (List (S33)) := if l0.length ≤ 1000000 then some (l0.filter fun x => x.f1 == a1) else none
set_option maxHeartbeats 4000000 in
set_option maxRecDepth 100000 in
theorem rrset_Typed.calls (A0 : Option Addr) (c0 : Nat) (l0 : List (S33)) (a1 : Int) (r : List (S33)) (w : World) (hr0 : Kd.C k33 w A0 l0.length l0) (hc0 : l0.length ≤ c0) (h : rrset_Typed.f l0 a1 = some r) :
    Calls Try.prog 25 #[.slice A0 l0.length c0, .int .i64 a1] w fun e w' => ∃ v0_ : Value, e = .returned (v0_) ∧ Kd.R k33 33 w' w.heap.size (fun _ => True) v0_ r ∧ Below w.heap.size w w' := by
  unfold rrset_Typed.f at h
  have hn : l0.length ≤ 1000000 := Classical.byContradiction fun hn => by rw [if_neg hn] at h; cases h
  rw [if_pos hn] at h
  injection h with h
  subst h
  have HR := Lib.hid hr0
  have HB := Aside0.mk (Below.refl w.heap.size w)
  clear hr0 hc0
  go_enter Try.func25, Try.ntmps25
  go_wp2_with (first | ((with_reducible refine gate_dst (N := 3) rfl ?_); refine box_event ?hg (N := 3) ?hd (cs := #[.int .i64 a1]) (t := 3) ?hr ?_; (case hd => rfl); (case hg => rfl); (case hr => first | (go_simp; done) | (go_simp; rfl)); intro gb hg w3 hbox hb; have n0_ := Aside0.mk (below_step (HB.out) hb); have n1_ := Aside0.mk (hbox); clear HB; have HB := n0_; have BK := n1_; clear n0_ n1_; clear hb hbox hg; have hcz1 : w3.cell? ⟨gb, 0, none⟩ = some (.int .i64 a1) := (blk_cell BK.out 0).trans rfl))
  have HC3 := Lib.hid hcz1
  refine (those_any l0 (fun x => x.f1 == a1) hn 48 Try.f48 _ Try.func48 (by kernel_rfl) rfl A0 c0 w3 (Kd.C_below HR.out HB.out) (fun x _ W hW => typed_step x a1 gb W ((hW.cell (World.block_lt_of_cell? w3 _ HC3.out)).trans HC3.out))).mono ?_
  rintro e w4 ⟨v, rfl, hv, hb4⟩
  have HV := Lib.hid hv
  have HB4 := Lib.hid (below_then HB.out HB.out.size hb4)
  have HS := Lib.hid HB.out.size
  clear hb4 HB hv
  go_wp2_with fail
  go_ret
  exact ⟨_, rfl, Kd.R_lower HV.out HS.out, HB4.out⟩
open Classical in
noncomputable def rrset_At.f (l0 : List (S33)) (a1 : ByteArray) : Option (List (S33)) := if l0.length ≤ 1000000 ∧ ∀ x ∈ l0, (name_Alike.f x.f0 a1).isSome = true then some (l0.filter fun x => (name_Alike.f x.f0 a1).getD false) else none
set_option maxHeartbeats 4000000 in
set_option maxRecDepth 100000 in
theorem rrset_At.calls (A0 : Option Addr) (c0 : Nat) (l0 : List (S33)) (a1 : ByteArray) (r : List (S33)) (w : World) (hr0 : Kd.C k33 w A0 l0.length l0) (hc0 : l0.length ≤ c0) (h : rrset_At.f l0 a1 = some r) :
    Calls Try.prog 36 #[.slice A0 l0.length c0, .string a1] w fun e w' => ∃ v0_ : Value, e = .returned (v0_) ∧ Kd.R k33 33 w' w.heap.size (fun _ => True) v0_ r ∧ Below w.heap.size w w' := by
  unfold rrset_At.f at h
  have hn : l0.length ≤ 1000000 ∧ ∀ x ∈ l0, (name_Alike.f x.f0 a1).isSome = true := Classical.byContradiction fun hn => by rw [if_neg hn] at h; cases h
  rw [if_pos hn] at h
  injection h with h
  subst h
  have HR := Lib.hid hr0
  have HA := Lib.hid hn.2
  replace hn := hn.1
  have HB := Aside0.mk (Below.refl w.heap.size w)
  clear hr0 hc0
  go_enter Try.func36, Try.ntmps36
  go_wp2_with (first | ((with_reducible refine gate_dst (N := 3) rfl ?_); refine box_event ?hg (N := 3) ?hd (cs := #[.string a1]) (t := 9) ?hr ?_; (case hd => rfl); (case hg => rfl); (case hr => first | (go_simp; done) | (go_simp; rfl)); intro gb hg w3 hbox hb; have n0_ := Aside0.mk (below_step (HB.out) hb); have n1_ := Aside0.mk (hbox); clear HB; have HB := n0_; have BK := n1_; clear n0_ n1_; clear hb hbox hg; have hcz1 : w3.cell? ⟨gb, 0, none⟩ = some (.string a1) := (blk_cell BK.out 0).trans rfl))
  have HC3 := Lib.hid hcz1
  refine (those_any l0 (fun x => (name_Alike.f x.f0 a1).getD false) hn 58 Try.f58 _ Try.func58 (by kernel_rfl) rfl A0 c0 w3 (Kd.C_below HR.out HB.out) (fun x hx W hW => at_step x a1 _ gb W ((hW.cell (World.block_lt_of_cell? w3 _ HC3.out)).trans HC3.out) (by
    obtain ⟨b, hb⟩ := Option.isSome_iff_exists.mp (HA.out x hx)
    rw [hb]; rfl))).mono ?_
  rintro e w4 ⟨v, rfl, hv, hb4⟩
  have HV := Lib.hid hv
  have HB4 := Lib.hid (below_then HB.out HB.out.size hb4)
  have HS := Lib.hid HB.out.size
  clear hb4 HB hv
  go_wp2_with fail
  go_ret
  exact ⟨_, rfl, Kd.R_lower HV.out HS.out, HB4.out⟩
end Go.Proofs.Ytehdkopjgcoclaa.Given
namespace Go.Proofs.Ytehdkopjgcoclaa.Rrs
open Go.RowKit Go.Proofs.YtehdkopjgcoclaaW.PrintWords Go.Proofs.YtehdkopjgcoclaaW.PrintLast Go.Proofs.YtehdkopjgcoclaaW.PrintMore Go.Proofs.Ytehdkopjgcoclaa.Given Go.Proofs.Ytehdkopjgcoclaa.PRd Go.Proofs.Ytehdkopjgcoclaa.PRr Go.Proofs.Ytehdkopjgcoclaa.Oct Go.Proofs.Ytehdkopjgcoclaa.Name Go.Proofs.Ytehdkopjgcoclaa.Cmp Go.Proofs.Ytehdkopjgcoclaa.NameFacts Go.Proofs.Ytehdkopjgcoclaa.RdataFacts Go.Proofs.Ytehdkopjgcoclaa.SetLaw
set_option linter.unusedVariables false
def alikeN (a b : ByteArray) : Bool := (name_Alike.f a b).getD false
def underN (a b : ByteArray) : Bool := (name_Under.f 300 a b).getD false
theorem both_names (a b : ByteArray) : (∃ l m, good l ∧ good m ∧ (nameB l).size ≤ 255 ∧ (nameB m).size ≤ 255 ∧ a = nameB l ∧ b = nameB m) ∨ (rightB a = false ∨ rightB b = false) := by
  cases ha : rightB a
  · exact .inr (.inl rfl)
  cases hb : rightB b
  · exact .inr (.inr rfl)
  obtain ⟨l, h1, h2, h3⟩ := (right_iff a).mp ha
  obtain ⟨m, k1, k2, k3⟩ := (right_iff b).mp hb
  exact .inl ⟨l, m, h1, k1, h3, k3, h2, k2⟩
theorem alikeN_f (a b : ByteArray) : name_Alike.f a b = some (alikeN a b) := by
  unfold alikeN
  rcases both_names a b with ⟨l, m, gl, gm, sl, sm, rfl, rfl⟩ | h
  · rw [alike_f l m gl gm sl sm]; rfl
  · rw [alike_no a b h]; rfl
theorem alikeN_name {l m : List ByteArray} (gl : good l) (gm : good m) (sl : (nameB l).size ≤ 255) (sm : (nameB m).size ≤ 255) : alikeN (nameB l) (nameB m) = decide (l.map lowS = m.map lowS) := by
  unfold alikeN; rw [alike_f l m gl gm sl sm]; rfl
theorem alikeN_no {a b : ByteArray} (h : rightB a = false ∨ rightB b = false) : alikeN a b = false := by
  unfold alikeN; rw [alike_no a b h]; rfl
theorem underN_f (a b : ByteArray) (k : Nat) (hk : 300 ≤ k) : name_Under.f k a b = some (underN a b) := by
  unfold underN
  rcases both_names a b with ⟨l, m, gl, gm, sl, sm, rfl, rfl⟩ | h
  · rw [under_f l m gl gm sl sm k hk, under_f l m gl gm sl sm 300 (Nat.le_refl _)]; rfl
  · rw [under_no a b h k (by omega), under_no a b h 300 (by omega)]; rfl
theorem ev_ralike (a b : ByteArray) : Ev (fun k => beadrollref07_Alike.f k a b) (alikeN a b) := ⟨700, fun k hk => by
  rcases both_names a b with ⟨l, m, gl, gm, sl, sm, rfl, rfl⟩ | h
  · show beadrollref07_Alike.f k _ _ = _
    rw [ralike_yes l m gl gm sl sm k hk, alikeN_name gl gm sl sm]
  · show beadrollref07_Alike.f k _ _ = _
    rw [ralike_no a b h k hk, alikeN_no h]⟩
theorem ev_under (a b : ByteArray) : Ev (fun k => name_Under.f k a b) (underN a b) := ⟨300, fun k hk => underN_f a b k hk⟩
theorem alike_iff {x y : RR} (hx : rightB x.f0 = true) (hy : rightB y.f0 = true) : alikeN x.f0 y.f0 = true ↔ nameK x = nameK y := by
  obtain ⟨l, gl, sl, el, kl⟩ := nameK_eq x hx
  obtain ⟨m, gm, sm, em, km⟩ := nameK_eq y hy
  rw [kl, km, el, em, alikeN_name gl gm sl sm, decide_eq_true_eq, List.reverse_inj]
theorem alike_self {a : ByteArray} (ha : rightB a = true) : alikeN a a = true := (alike_iff (x := ⟨a, 0, 0, 0, a⟩) (y := ⟨a, 0, 0, 0, a⟩) ha ha).mpr rfl
theorem alike_right {a b : ByteArray} (h : alikeN a b = true) : rightB a = true ∧ rightB b = true := by
  cases ha : rightB a
  · rw [alikeN_no (.inl ha)] at h; cases h
  cases hb : rightB b
  · rw [alikeN_no (.inr hb)] at h; cases h
  exact ⟨rfl, rfl⟩
theorem alike_symm (a b : ByteArray) : alikeN a b = alikeN b a := by
  rw [Bool.eq_iff_iff]
  constructor
  · intro h
    obtain ⟨ha, hb⟩ := alike_right h
    exact (alike_iff (x := ⟨b, 0, 0, 0, a⟩) (y := ⟨a, 0, 0, 0, a⟩) hb ha).mpr ((alike_iff (x := ⟨a, 0, 0, 0, a⟩) (y := ⟨b, 0, 0, 0, a⟩) ha hb).mp h).symm
  · intro h
    obtain ⟨hb, ha⟩ := alike_right h
    exact (alike_iff (x := ⟨a, 0, 0, 0, a⟩) (y := ⟨b, 0, 0, 0, a⟩) ha hb).mpr ((alike_iff (x := ⟨b, 0, 0, 0, a⟩) (y := ⟨a, 0, 0, 0, a⟩) hb ha).mp h).symm
theorem alike_congr {a b : ByteArray} (h : alikeN a b = true) (n : ByteArray) : alikeN a n = alikeN b n := by
  obtain ⟨ha, hb⟩ := alike_right h
  have e := (alike_iff (x := ⟨a, 0, 0, 0, a⟩) (y := ⟨b, 0, 0, 0, a⟩) ha hb).mp h
  cases hn : rightB n
  · rw [alikeN_no (.inr hn), alikeN_no (.inr hn)]
  · have e1 := alike_iff (x := ⟨a, 0, 0, 0, a⟩) (y := ⟨n, 0, 0, 0, a⟩) ha hn
    have e2 := alike_iff (x := ⟨b, 0, 0, 0, a⟩) (y := ⟨n, 0, 0, 0, a⟩) hb hn
    rw [e] at e1
    rw [Bool.eq_iff_iff]
    exact e1.trans e2.symm
theorem alike_congr' {a b : ByteArray} (h : alikeN a b = true) (n : ByteArray) : alikeN n a = alikeN n b := by rw [alike_symm n a, alike_symm n b]; exact alike_congr h n
theorem ptyped_f (x : RR) : record_typed.f x.f0 x.f1 x.f2 x.f3 x.f4 = some (typedB x.f2 x.f4) := by
  unfold record_typed.f typedB
  repeat' split
  all_goals rfl
theorem ev_right_j (b : Bool) (x : RR) (h : b = false → x.f4.size ≤ 1000000) : Ev (fun k => record_Right.j0 k b x.f0 x.f1 x.f2 x.f3 x.f4) (!b && (!typedB x.f2 x.f4 || rightD x.f1 x.f4)) := by
  have hs : ∀ k, record_Right.j0 (k + 1) b x.f0 x.f1 x.f2 x.f3 x.f4 = if b = true then some false else (record_typed.f x.f0 x.f1 x.f2 x.f3 x.f4).bind fun t => if t = true then (rdata_Right.f x.f1 x.f4).bind fun u => some u else some true := fun k => by
    simp only [record_Right.j0]
  refine Ev.step hs ?_
  cases b
  · simp only [ptyped_f, Option.bind_some, Bool.false_eq_true, if_false]
    cases ht : typedB x.f2 x.f4
    · simp only [Bool.false_eq_true, if_false]
      exact Ev.now _
    · simp only [if_true]
      refine Ev.const ?_
      have := h rfl
      unfold rdata_Right.f
      rw [if_pos (by omega)]
      rfl
  · simp only [if_true]
    exact Ev.now _
theorem ev_right (x : RR) : Ev (fun k => record_Right.f k x.f0 x.f1 x.f2 x.f3 x.f4) (rightRR x) := by
  have hs : ∀ k, record_Right.f k x.f0 x.f1 x.f2 x.f3 x.f4 = record_Right.j0 k (!(rightB x.f0 && (decide (0 ≤ x.f1) && (decide (x.f1 ≤ 65535) && (decide (0 ≤ x.f2) && (decide (x.f2 ≤ 65535) && (decide (0 ≤ x.f3) && (decide (x.f3 ≤ 2147483647) && decide (x.f4.size ≤ 65535))))))))) x.f0 x.f1 x.f2 x.f3 x.f4 := fun k => by
    unfold record_Right.f
    rw [right_f, Option.bind_some]
    by_cases h1 : x.f1 < 0
    · simp [h1, show ¬ (0 ≤ x.f1) by omega]
    by_cases h2 : x.f1 > 65535
    · simp [h1, h2, show ¬ (x.f1 ≤ 65535) by omega]
    by_cases h3 : x.f2 < 0
    · simp [h1, h2, h3, show ¬ (0 ≤ x.f2) by omega]
    by_cases h4 : x.f2 > 65535
    · simp [h1, h2, h3, h4, show ¬ (x.f2 ≤ 65535) by omega]
    by_cases h5 : x.f3 < 0
    · simp [h1, h2, h3, h4, h5, show ¬ (0 ≤ x.f3) by omega]
    by_cases h6 : x.f3 > 2147483647
    · simp [h1, h2, h3, h4, h5, h6, show ¬ (x.f3 ≤ 2147483647) by omega]
    have e7 : decide ((x.f4.size : Int) > 65535) = !decide (x.f4.size ≤ 65535) := by
      by_cases h7 : x.f4.size ≤ 65535
      · rw [decide_eq_true h7, decide_eq_false (by omega)]; rfl
      · rw [decide_eq_false h7, decide_eq_true (by omega)]; rfl
    rw [if_neg h1, if_neg h2, if_neg h3, if_neg h4, if_neg h5, if_neg h6, e7]
    cases rightB x.f0
    · simp
    · simp [show 0 ≤ x.f1 by omega, show x.f1 ≤ 65535 by omega, show 0 ≤ x.f2 by omega, show x.f2 ≤ 65535 by omega, show 0 ≤ x.f3 by omega, show x.f3 ≤ 2147483647 by omega]
  refine Ev.congr hs ?_
  refine (?_ : (!(!(rightB x.f0 && _)) && _) = rightRR x) ▸ ev_right_j _ x ?_
  · unfold rightRR
    simp only [Bool.not_not, Bool.and_assoc]
  · intro h
    simp only [Bool.not_eq_false', Bool.and_eq_true, decide_eq_true_eq] at h
    omega
def dataB (t : Int) : Bool := (zone_DataType.f t).getD false
theorem dataB_f (t : Int) : zone_DataType.f t = some (dataB t) := by
  unfold dataB zone_DataType.f
  repeat' split
  all_goals rfl
def withinB (a : ByteArray) (x : RR) : Bool := decide (x.f2 = 1) && (dataB x.f1 && underN x.f0 a)
theorem within_f (a : ByteArray) (x : RR) (k : Nat) (hk : 300 ≤ k) : zone_within.f k a x.f0 x.f1 x.f2 x.f3 x.f4 = some (withinB a x) := by
  unfold zone_within.f withinB
  rw [dataB_f, underN_f _ _ k hk]
  by_cases h : x.f2 = 1
  · rw [if_pos h, decide_eq_true h, Option.bind_some]
    cases dataB x.f1 <;> rfl
  · rw [if_neg h, decide_eq_false h]; rfl
def atL (l : List RR) (n : ByteArray) : List RR := l.filter fun x => alikeN x.f0 n
def typedL (l : List RR) (t : Int) : List RR := l.filter fun x => x.f1 == t
def setL (l : List RR) (n : ByteArray) (t : Int) : List RR := typedL (atL l n) t
theorem at_fl (l : List RR) (n : ByteArray) (h : l.length ≤ 1000000) : rrset_At.f l n = some (atL l n) := by
  unfold rrset_At.f
  rw [if_pos ⟨h, fun x _ => by rw [alikeN_f]; rfl⟩]
  rfl
theorem typed_fl (l : List RR) (t : Int) (h : l.length ≤ 1000000) : rrset_Typed.f l t = some (typedL l t) := by
  unfold rrset_Typed.f
  rw [if_pos h]; rfl
theorem atL_len (l : List RR) (n : ByteArray) : (atL l n).length ≤ l.length := List.length_filter_le _ _
theorem typedL_len (l : List RR) (t : Int) : (typedL l t).length ≤ l.length := List.length_filter_le _ _
theorem rat_loop (l : List RR) (n : ByteArray) (hn : l.length ≤ 1000000) : ∀ (d i : Nat) (out : List RR), l.length ≤ i + d → i ≤ l.length → out.length ≤ i → Ev (fun k => beadrollref13_At.l0 k l n out (i : Int)) (out ++ atL (l.drop i) n) := by
  have hend : ∀ (i : Nat) (out : List RR), l.length ≤ i → Ev (fun k => beadrollref13_At.l0 k l n out (i : Int)) (out ++ atL (l.drop i) n) := by
    intro i out hd
    refine Ev.step (f := fun _ => some out) (fun k => by rw [beadrollref13_At.l0]; rw [if_neg (by omega)]) ?_
    rw [List.drop_of_length_le hd]
    show Ev _ (out ++ [])
    rw [List.append_nil]
    exact Ev.now _
  intro d
  induction d with
  | zero => exact fun i out hd hi0 ho => hend i out (by omega)
  | succ d ih =>
    intro i out hd hi0 ho
    by_cases hi : i < l.length
    · have e1 : wrap64 ((i : Int) + 1) = ((i + 1 : Nat) : Int) := by unfold wrap64; omega
      have hr := rdR_get l i hi
      have hs : ∀ k, beadrollref13_At.l0 (k + 1) l n out (i : Int) = (beadrollref07_Alike.f k (rdR l (i : Int)).f0 n).bind fun t => if t = true then beadrollref13_At.l0 k l n (out ++ [rdR l (i : Int)]) ((i + 1 : Nat) : Int) else beadrollref13_At.l0 k l n out ((i + 1 : Nat) : Int) := fun k => by
        rw [beadrollref13_At.l0, e1]
        rw [if_pos (by omega), if_pos (by omega)]
        congr 1
        funext t
        rw [if_pos (show out.length < _ by omega)]
      rw [hr] at hs
      refine Ev.step hs (Ev.bind (ev_ralike _ _) ?_)
      rw [List.drop_eq_getElem_cons hi]
      unfold atL
      rw [List.filter_cons]
      cases alikeN l[i].f0 n
      · simp only [Bool.false_eq_true, if_false]
        exact ih (i + 1) out (by omega) (by omega) (by omega)
      · simp only [if_true]
        have := ih (i + 1) (out ++ [l[i]]) (by omega) (by omega) (by rw [List.length_append, List.length_singleton]; omega)
        rw [List.append_assoc, List.singleton_append] at this
        exact this
    · exact hend i out (by omega)
theorem ev_rat (l : List RR) (n : ByteArray) (hn : l.length ≤ 1000000) : Ev (fun k => beadrollref13_At.f k l n) (atL l n) := by
  have := rat_loop l n hn l.length 0 [] (by omega) (Nat.zero_le _) (Nat.le_refl _)
  rw [List.drop_zero, List.nil_append] at this
  exact this
theorem rty_loop (l : List RR) (t : Int) (hn : l.length ≤ 1000000) : ∀ (d i : Nat) (out : List RR), l.length ≤ i + d → i ≤ l.length → out.length ≤ i → Ev (fun k => beadrollref13_Typed.l0 k l t out (i : Int)) (out ++ typedL (l.drop i) t) := by
  have hend : ∀ (i : Nat) (out : List RR), l.length ≤ i → Ev (fun k => beadrollref13_Typed.l0 k l t out (i : Int)) (out ++ typedL (l.drop i) t) := by
    intro i out hd
    refine Ev.step (f := fun _ => some out) (fun k => by rw [beadrollref13_Typed.l0]; rw [if_neg (by omega)]) ?_
    rw [List.drop_of_length_le hd]
    show Ev _ (out ++ [])
    rw [List.append_nil]
    exact Ev.now _
  intro d
  induction d with
  | zero => exact fun i out hd hi0 ho => hend i out (by omega)
  | succ d ih =>
    intro i out hd hi0 ho
    by_cases hi : i < l.length
    · have e1 : wrap64 ((i : Int) + 1) = ((i + 1 : Nat) : Int) := by unfold wrap64; omega
      have hr := rdR_get l i hi
      have hs : ∀ k, beadrollref13_Typed.l0 (k + 1) l t out (i : Int) = if (rdR l (i : Int)).f1 = t then beadrollref13_Typed.l0 k l t (out ++ [rdR l (i : Int)]) ((i + 1 : Nat) : Int) else beadrollref13_Typed.l0 k l t out ((i + 1 : Nat) : Int) := fun k => by
        rw [beadrollref13_Typed.l0, e1]
        rw [if_pos (by omega), if_pos (by omega), if_pos (show out.length < _ by omega)]
      rw [hr] at hs
      refine Ev.step hs ?_
      rw [List.drop_eq_getElem_cons hi]
      unfold typedL
      rw [List.filter_cons]
      by_cases h : l[i].f1 = t
      · simp only [h, beq_self_eq_true, if_true]
        have := ih (i + 1) (out ++ [l[i]]) (by omega) (by omega) (by rw [List.length_append, List.length_singleton]; omega)
        rw [List.append_assoc, List.singleton_append] at this
        exact this
      · simp only [h, beq_eq_false_iff_ne.mpr h, Bool.false_eq_true, if_false]
        exact ih (i + 1) out (by omega) (by omega) (by omega)
    · exact hend i out (by omega)
theorem ev_rtyped (l : List RR) (t : Int) (hn : l.length ≤ 1000000) : Ev (fun k => beadrollref13_Typed.f k l t) (typedL l t) := by
  have := rty_loop l t hn l.length 0 [] (by omega) (Nat.zero_le _) (Nat.le_refl _)
  rw [List.drop_zero, List.nil_append] at this
  exact this
def apartAt (l : List RR) (i : Nat) : Bool := !((rdR l (i : Int)).f1 == 5 && ((decide (0 < i) && alikeN (rdR l ((i - 1 : Nat) : Int)).f0 (rdR l (i : Int)).f0) || (decide (i + 1 < l.length) && alikeN (rdR l ((i + 1 : Nat) : Int)).f0 (rdR l (i : Int)).f0)))
def apartFrom (l : List RR) : Nat → Nat → Bool
  | 0, _ => true
  | d + 1, i => if i < l.length then apartAt l i && apartFrom l d (i + 1) else true
def apartB (l : List RR) : Bool := apartFrom l l.length 0
theorem apart_loop (l : List RR) (hn : l.length ≤ 1000000) : ∀ (d i : Nat), l.length ≤ i + d → i ≤ l.length → Ev (fun k => zone_apart.l0 k l l (l.length : Int) (i : Int)) (apartFrom l d i) := by
  intro d
  induction d with
  | zero =>
    intro i hd hi0
    exact Ev.step (f := fun _ => some true) (fun k => by rw [zone_apart.l0]; rw [if_neg (by omega)]) (Ev.now _)
  | succ d ih =>
    intro i hd hi0
    by_cases hi : i < l.length
    · rw [apartFrom, if_pos hi]
      have e1 : wrap64 ((i : Int) + 1) = ((i + 1 : Nat) : Int) := by unfold wrap64; omega
      have ihn := ih (i + 1) (by omega) (by omega)
      have hnext : Ev (fun k => if ((i + 1 : Nat) : Int) < (l.length : Int) then (if 0 ≤ ((i + 1 : Nat) : Int) then ((name_Alike.f (rdR l ((i + 1 : Nat) : Int)).f0 (rdR l (i : Int)).f0).bind fun t => if t = true then some false else zone_apart.l0 k l l (l.length : Int) ((i + 1 : Nat) : Int)) else none) else zone_apart.l0 k l l (l.length : Int) ((i + 1 : Nat) : Int))
          (!(decide (i + 1 < l.length) && alikeN (rdR l ((i + 1 : Nat) : Int)).f0 (rdR l (i : Int)).f0) && apartFrom l d (i + 1)) := by
        by_cases h : i + 1 < l.length
        · simp only [show (((i + 1 : Nat) : Int) < (l.length : Int)) = True from eq_true (by omega), show (0 ≤ ((i + 1 : Nat) : Int)) = True from eq_true (by omega), if_true, alikeN_f, Option.bind_some, decide_eq_true h, Bool.true_and]
          cases alikeN (rdR l ((i + 1 : Nat) : Int)).f0 (rdR l (i : Int)).f0
          · simp only [Bool.false_eq_true, if_false, Bool.not_false, Bool.true_and]; exact ihn
          · simp only [if_true, Bool.not_true, Bool.false_and]; exact Ev.now _
        · simp only [show (((i + 1 : Nat) : Int) < (l.length : Int)) = False from eq_false (by omega), if_false, decide_eq_false h, Bool.false_and, Bool.not_false, Bool.true_and]
          exact ihn
      have hs : ∀ k, zone_apart.l0 (k + 1) l l (l.length : Int) (i : Int) = if (rdR l (i : Int)).f1 = 5 then (if (i : Int) > 0 then (if 0 ≤ wrap64 ((i : Int) - 1) then (if wrap64 ((i : Int) - 1) < (l.length : Int) then ((name_Alike.f (rdR l (wrap64 ((i : Int) - 1))).f0 (rdR l (i : Int)).f0).bind fun t => if t = true then some false else if ((i + 1 : Nat) : Int) < (l.length : Int) then (if 0 ≤ ((i + 1 : Nat) : Int) then ((name_Alike.f (rdR l ((i + 1 : Nat) : Int)).f0 (rdR l (i : Int)).f0).bind fun t => if t = true then some false else zone_apart.l0 k l l (l.length : Int) ((i + 1 : Nat) : Int)) else none) else zone_apart.l0 k l l (l.length : Int) ((i + 1 : Nat) : Int)) else none) else none)
          else if ((i + 1 : Nat) : Int) < (l.length : Int) then (if 0 ≤ ((i + 1 : Nat) : Int) then ((name_Alike.f (rdR l ((i + 1 : Nat) : Int)).f0 (rdR l (i : Int)).f0).bind fun t => if t = true then some false else zone_apart.l0 k l l (l.length : Int) ((i + 1 : Nat) : Int)) else none) else zone_apart.l0 k l l (l.length : Int) ((i + 1 : Nat) : Int)) else zone_apart.l0 k l l (l.length : Int) ((i + 1 : Nat) : Int) := fun k => by
        rw [zone_apart.l0, e1]; rw [if_pos (by omega), if_pos (by omega), if_pos (by omega)]
      refine Ev.step hs ?_
      unfold apartAt
      by_cases h5 : (rdR l (i : Int)).f1 = 5
      · simp only [h5, if_true, beq_self_eq_true, Bool.true_and]
        by_cases h0 : 0 < i
        · have e2 : wrap64 ((i : Int) - 1) = ((i - 1 : Nat) : Int) := by unfold wrap64; omega
          simp only [e2, show ((i : Int) > 0) = True from eq_true (by omega), show (0 ≤ ((i - 1 : Nat) : Int)) = True from eq_true (by omega), show (((i - 1 : Nat) : Int) < (l.length : Int)) = True from eq_true (by omega), if_true, alikeN_f, Option.bind_some, decide_eq_true h0, Bool.true_and]
          simp only [alikeN_f, Option.bind_some] at hnext
          cases alikeN (rdR l ((i - 1 : Nat) : Int)).f0 (rdR l (i : Int)).f0
          · simp only [Bool.false_eq_true, if_false, Bool.false_or]; exact hnext
          · simp only [if_true, Bool.true_or, Bool.not_true, Bool.false_and]; exact Ev.now _
        · simp only [show ((i : Int) > 0) = False from eq_false (by omega), if_false, decide_eq_false h0, Bool.false_and, Bool.false_or]
          exact hnext
      · have h5' : ((rdR l (i : Int)).f1 == 5) = false := beq_eq_false_iff_ne.mpr h5
        simp only [h5, if_false, h5', Bool.false_and, Bool.not_false, Bool.true_and]
        exact ihn
    · rw [apartFrom, if_neg hi]
      exact Ev.step (f := fun _ => some true) (fun k => by rw [zone_apart.l0]; rw [if_neg (by omega)]) (Ev.now _)
theorem ev_apart (l : List RR) (hn : l.length ≤ 1000000) : Ev (fun k => zone_apart.f k l) (apartB l) := apart_loop l hn l.length 0 (by omega) (Nat.zero_le _)
theorem apartFrom_iff (l : List RR) : ∀ (d i : Nat), l.length ≤ i + d → (apartFrom l d i = true ↔ ∀ j, i ≤ j → j < l.length → apartAt l j = true) := by
  intro d
  induction d with
  | zero => intro i hd; exact ⟨fun _ j h1 h2 => by omega, fun _ => rfl⟩
  | succ d ih =>
    intro i hd
    rw [apartFrom]
    split
    · rename_i hi
      rw [Bool.and_eq_true, ih (i + 1) (by omega)]
      constructor
      · rintro ⟨h1, h2⟩ j hj hl
        by_cases e : j = i
        · rw [e]; exact h1
        · exact h2 j (by omega) hl
      · exact fun h => ⟨h i (Nat.le_refl _) hi, fun j hj hl => h j (by omega) hl⟩
    · rename_i hi
      exact ⟨fun _ j h1 h2 => by omega, fun _ => rfl⟩
theorem apartB_iff (l : List RR) : apartB l = true ↔ ∀ j, j < l.length → apartAt l j = true := by
  unfold apartB
  rw [apartFrom_iff l _ 0 (by omega)]
  exact ⟨fun h j hj => h j (Nat.zero_le _) hj, fun h j _ hj => h j hj⟩
end Go.Proofs.Ytehdkopjgcoclaa.Rrs
namespace Go.Proofs.Ytehdkopjgcoclaa.SetLaw
set_option linter.unusedVariables false
variable {α : Type} {c : α → α → Int}
theorem cls_comm (O : POrd c) (a b : List α) (h : ∀ x ∈ a, ∀ y ∈ b, ¬ c x y = 0) (z : α) : cls c (a ++ b) z = cls c (b ++ a) z := by
  rw [cls_append, cls_append]
  by_cases ha : ∃ x ∈ a, c z x = 0
  · obtain ⟨x, hx, h0⟩ := ha
    have : cls c b z = [] := cls_none fun y hy h1 => h x hx y hy (by rw [← O.cong z x y h0]; exact h1)
    rw [this]; simp
  · have : cls c a z = [] := cls_none fun y hy h1 => ha ⟨y, hy, h1⟩
    rw [this]; simp
theorem StableOf.refl_of {l : List α} (h : Sorted c l) : StableOf c l l := ⟨h, fun _ => rfl⟩
theorem StableOf.mem (O : POrd c) {l m : List α} (h : StableOf c l m) {y : α} (hy : y ∈ m) : y ∈ l := mem_of_cls O h.2 hy
theorem sorted_append {l m : List α} (hl : Sorted c l) (hm : Sorted c m) (h : ∀ x ∈ l, ∀ y ∈ m, c x y ≤ 0) : Sorted c (l ++ m) := List.pairwise_append.mpr ⟨hl, hm, h⟩
theorem sorted_left {l m : List α} (h : Sorted c (l ++ m)) : Sorted c l := (List.pairwise_append.mp h).1
theorem sorted_right {l m : List α} (h : Sorted c (l ++ m)) : Sorted c m := (List.pairwise_append.mp h).2.1
theorem sorted_between {l m : List α} (h : Sorted c (l ++ m)) : ∀ x ∈ l, ∀ y ∈ m, c x y ≤ 0 := (List.pairwise_append.mp h).2.2
theorem stable_insert (O : POrd c) {l1 l2 : List α} {x : α} (hs : Sorted c (l1 ++ l2)) (h1 : ∀ y ∈ l1, c y x ≤ 0) (h2 : ∀ y ∈ l2, c x y < 0) : StableOf c (l1 ++ l2 ++ [x]) (l1 ++ x :: l2) := by
  refine ⟨?_, fun z => ?_⟩
  · refine sorted_append (sorted_left hs) (List.pairwise_cons.mpr ⟨fun y hy => by have := h2 y hy; omega, sorted_right hs⟩) fun a ha b hb => ?_
    rcases List.mem_cons.mp hb with rfl | hb
    · exact h1 a ha
    · exact sorted_between hs a ha b hb
  · have e := cls_comm O [x] l2 (fun a ha b hb => by
      rw [List.mem_singleton] at ha
      subst ha
      have := h2 b hb
      omega) z
    rw [cls_append, show x :: l2 = [x] ++ l2 from rfl, e, List.append_assoc, cls_append c l1]
theorem stable_front (O : POrd c) {r1 r2 : List α} {x : α} (hs : Sorted c (r1 ++ r2)) (h1 : ∀ y ∈ r1, c y x < 0) (h2 : ∀ y ∈ r2, 0 ≤ c y x) : StableOf c ([x] ++ (r1 ++ r2)) (r1 ++ x :: r2) := by
  refine ⟨?_, fun z => ?_⟩
  · refine sorted_append (sorted_left hs) (List.pairwise_cons.mpr ⟨fun y hy => by have := h2 y hy; have := O.flip y x; omega, sorted_right hs⟩) fun a ha b hb => ?_
    rcases List.mem_cons.mp hb with rfl | hb
    · have := h1 a ha; omega
    · exact sorted_between hs a ha b hb
  · have e := cls_comm O r1 [x] (fun a ha b hb => by
      rw [List.mem_singleton] at hb
      subst hb
      have := h1 a ha
      omega) z
    rw [show r1 ++ x :: r2 = r1 ++ [x] ++ r2 by simp, cls_append, e, ← cls_append, List.append_assoc]
theorem stable_halves (O : POrd c) {l1 l2 r1 r2 m1 m2 : List α} (hl : Sorted c (l1 ++ l2)) (hr : Sorted c (r1 ++ r2)) (h1 : ∀ x ∈ l1, ∀ y ∈ r2, c x y ≤ 0) (h2 : ∀ y ∈ r1, ∀ x ∈ l2, c y x < 0)
    (s1 : StableOf c (l1 ++ r1) m1) (s2 : StableOf c (l2 ++ r2) m2) : StableOf c ((l1 ++ l2) ++ (r1 ++ r2)) (m1 ++ m2) := by
  refine ⟨sorted_append s1.1 s2.1 fun x hx y hy => ?_, fun z => ?_⟩
  · have hx' := s1.mem O hx
    have hy' := s2.mem O hy
    rcases List.mem_append.mp hx' with hx' | hx' <;> rcases List.mem_append.mp hy' with hy' | hy'
    · exact sorted_between hl x hx' y hy'
    · exact h1 x hx' y hy'
    · have := h2 x hx' y hy'; omega
    · exact sorted_between hr x hx' y hy'
  · have e := cls_comm O r1 l2 (fun a ha b hb => by have := h2 a ha b hb; omega) z
    rw [cls_append, s1.2, s2.2, ← cls_append, show l1 ++ r1 ++ (l2 ++ r2) = l1 ++ (r1 ++ l2) ++ r2 by simp, cls_append, cls_append c l1, e, ← cls_append, ← cls_append]
    simp
def Blocks (c : α → α → Int) (s : Nat) (l : List α) : Prop := ∀ k, Sorted c ((l.drop (k * s)).take s)
theorem blocks_nil (s : Nat) : Blocks c s [] := fun k => by simp [Sorted]
theorem blocks_snoc {s t : Nat} {p q : List α} (hp : Blocks c s p) (ht : p.length = t * s) (hq : Sorted c q) (hs : q.length ≤ s) : Blocks c s (p ++ q) := by
  intro k
  rw [List.drop_append]
  by_cases h : k < t
  · have h1 : (k + 1) * s ≤ t * s := Nat.mul_le_mul_right s h
    rw [Nat.add_mul, Nat.one_mul] at h1
    rw [Nat.sub_eq_zero_of_le (show k * s ≤ p.length by omega), List.drop_zero, List.take_append_of_le_length (by rw [List.length_drop]; omega)]
    exact hp k
  · have h1 : t * s ≤ k * s := Nat.mul_le_mul_right s (by omega)
    rw [List.drop_of_length_le (by omega), List.nil_append]
    exact (hq.sublist (List.drop_sublist _ _)).sublist (List.take_sublist _ _)
theorem blocks_all {s : Nat} {l : List α} (h : Blocks c s l) (hs : l.length ≤ s) : Sorted c l := by
  have := h 0
  rw [Nat.zero_mul, List.drop_zero, List.take_of_length_le hs] at this
  exact this
theorem set_at (p s : List α) (x y : α) : (p ++ x :: s).set p.length y = p ++ y :: s := by
  rw [List.set_append_right _ _ (Nat.le_refl _), Nat.sub_self, List.set_cons_zero]
theorem get_at (p s : List α) (x : α) : (p ++ x :: s)[p.length]? = some x := by
  rw [List.getElem?_append_right (Nat.le_refl _), Nat.sub_self]; rfl
theorem sw_adj (p s : List α) (x y : α) (i : Nat) (hi : i = p.length) : ((p ++ x :: y :: s).set (i + 1) x).set i y = p ++ y :: x :: s := by
  subst hi
  rw [show p ++ x :: y :: s = (p ++ [x]) ++ y :: s by simp, show p.length + 1 = (p ++ [x]).length by simp, set_at, show p ++ [x] ++ x :: s = p ++ x :: (x :: s) by simp, set_at]
theorem sw_adj2 (p s : List α) (x y : α) (i : Nat) (hi : i = p.length) : ((p ++ x :: y :: s).set i y).set (i + 1) x = p ++ y :: x :: s := by
  subst hi
  rw [set_at, show p ++ y :: y :: s = (p ++ [y]) ++ y :: s by simp, show p.length + 1 = (p ++ [y]).length by simp, set_at]
  simp
def sw (l : List α) (i j : Nat) : List α := match l[i]?, l[j]? with
  | some x, some y => (l.set i y).set j x
  | _, _ => l
theorem sw_length (l : List α) (i j : Nat) : (sw l i j).length = l.length := by unfold sw; split <;> simp
theorem sw_get (l : List α) (i j : Nat) (hi : i < l.length) (hj : j < l.length) (t : Nat) : (sw l i j)[t]? = if t = j then l[i]? else if t = i then l[j]? else l[t]? := by
  unfold sw
  rw [List.getElem?_eq_getElem hi, List.getElem?_eq_getElem hj]
  simp only [List.getElem?_set, List.length_set]
  by_cases h1 : t = j
  · subst h1
    simp [hj]
  · rw [if_neg (fun e => h1 e.symm), if_neg h1]
    by_cases h2 : t = i
    · subst h2
      simp [hi]
    · rw [if_neg (fun e => h2 e.symm), if_neg h2]
def swR (l : List α) (a b : Nat) : Nat → List α
  | 0 => l
  | n + 1 => sw (swR l a b n) (a + n) (b + n)
theorem swR_length (l : List α) (a b n : Nat) : (swR l a b n).length = l.length := by
  induction n with
  | zero => rfl
  | succ n ih => rw [swR, sw_length, ih]
theorem swR_get (l : List α) (a b : Nat) : ∀ n, a + n ≤ b → b + n ≤ l.length → ∀ t, (swR l a b n)[t]? = if a ≤ t ∧ t < a + n then l[t + (b - a)]? else if b ≤ t ∧ t < b + n then l[t - (b - a)]? else l[t]? := by
  intro n
  induction n with
  | zero =>
    intro h1 h2 t
    rw [swR, if_neg (by omega), if_neg (by omega)]
  | succ n ih =>
    intro h1 h2 t
    have ih' := ih (by omega) (by omega)
    rw [swR, sw_get _ _ _ (by rw [swR_length]; omega) (by rw [swR_length]; omega), ih', ih', ih']
    by_cases e1 : t = b + n
    · subst e1
      rw [if_pos rfl, if_neg (by omega), if_neg (by omega), if_neg (by omega), if_pos (by omega)]
      congr 1; omega
    · rw [if_neg e1]
      by_cases e2 : t = a + n
      · subst e2
        rw [if_pos rfl, if_neg (by omega), if_neg (by omega), if_pos (by omega)]
        congr 1; omega
      · rw [if_neg e2]
        by_cases e3 : a ≤ t ∧ t < a + n
        · rw [if_pos e3, if_pos (by omega)]
        · rw [if_neg e3, if_neg (show ¬ (a ≤ t ∧ t < a + (n + 1)) by omega)]
          by_cases e4 : b ≤ t ∧ t < b + n
          · rw [if_pos e4, if_pos (by omega)]
          · rw [if_neg e4, if_neg (by omega)]
def Rot (l l' : List α) (m i j : Nat) : Prop := l'.length = l.length ∧ ∀ t, l'[t]? = if m - i ≤ t ∧ t < m - i + j then l[t + i]? else if m - i + j ≤ t ∧ t < m + j then l[t - j]? else l[t]?
theorem rot_same (l : List α) (m i : Nat) (hi : i ≤ m) (hm : m + i ≤ l.length) : Rot l (swR l (m - i) m i) m i i := by
  refine ⟨swR_length _ _ _ _, fun t => ?_⟩
  rw [swR_get l (m - i) m i (by omega) (by omega)]
  have e : m - (m - i) = i := by omega
  rw [e]
  by_cases h1 : m - i ≤ t ∧ t < m - i + i
  · rw [if_pos h1, if_pos h1]
  · rw [if_neg h1, if_neg h1]
    by_cases h2 : m ≤ t ∧ t < m + i
    · rw [if_pos h2, if_pos (by omega)]
    · rw [if_neg h2, if_neg (by omega)]
theorem rot_left {l l' : List α} {m i j : Nat} (hj : j < i) (hi : i ≤ m) (hm : m + j ≤ l.length) (h : Rot (swR l (m - i) m j) l' m (i - j) j) : Rot l l' m i j := by
  refine ⟨h.1.trans (swR_length _ _ _ _), fun t => ?_⟩
  have g := swR_get l (m - i) m j (by omega) (by omega)
  rw [h.2 t]
  simp only [g]
  repeat' split
  all_goals first | rfl | (exfalso; omega) | (refine congrArg (fun k => l[k]?) ?_; omega)
theorem rot_right {l l' : List α} {m i j : Nat} (hj : i < j) (hi : i ≤ m) (hm : m + j ≤ l.length) (h : Rot (swR l (m - i) (m + j - i) i) l' m i (j - i)) : Rot l l' m i j := by
  refine ⟨h.1.trans (swR_length _ _ _ _), fun t => ?_⟩
  have g := swR_get l (m - i) (m + j - i) i (by omega) (by omega)
  rw [h.2 t]
  simp only [g]
  repeat' split
  all_goals first | rfl | (exfalso; omega) | (refine congrArg (fun k => l[k]?) ?_; omega)
theorem rot_lists {p u v s l' : List α} (h : Rot (p ++ (u ++ (v ++ s))) l' (p.length + u.length) u.length v.length) : l' = p ++ (v ++ (u ++ s)) := by
  refine List.ext_getElem? fun t => ?_
  rw [h.2 t]
  have e : p.length + u.length - u.length = p.length := by omega
  rw [e]
  by_cases h1 : p.length ≤ t ∧ t < p.length + v.length
  · rw [if_pos h1]
    rw [List.getElem?_append_right (by omega), List.getElem?_append_right (by omega), List.getElem?_append_left (by omega), List.getElem?_append_right (by omega), List.getElem?_append_left (by omega)]
    congr 1; omega
  · rw [if_neg h1]
    by_cases h2 : p.length + v.length ≤ t ∧ t < p.length + u.length + v.length
    · rw [if_pos h2]
      rw [List.getElem?_append_right (by omega), List.getElem?_append_left (by omega), List.getElem?_append_right (by omega), List.getElem?_append_right (by omega), List.getElem?_append_left (by omega)]
      congr 1; omega
    · rw [if_neg h2]
      by_cases h3 : t < p.length
      · rw [List.getElem?_append_left h3, List.getElem?_append_left h3]
      · rw [List.getElem?_append_right (by omega), List.getElem?_append_right (by omega), List.getElem?_append_right (by omega), List.getElem?_append_right (by omega), List.getElem?_append_right (by omega), List.getElem?_append_right (by omega)]
        congr 1; omega
end Go.Proofs.Ytehdkopjgcoclaa.SetLaw
namespace Go.Proofs.Ytehdkopjgcoclaa.SetLaw
set_option linter.unusedVariables false
variable {α : Type} {c : α → α → Int}
theorem POrd.lt_of_le_of_lt (O : POrd c) {a b e : α} (h : c a b ≤ 0) (h' : c b e < 0) : c a e < 0 := by
  by_cases k : c a b = 0
  · exact O.lt_of_eq_of_lt k h'
  · exact O.trans a b e (by omega) h'
theorem POrd.lt_of_lt_of_le (O : POrd c) {a b e : α} (h : c a b < 0) (h' : c b e ≤ 0) : c a e < 0 := by
  by_cases k : c b e = 0
  · exact O.lt_of_lt_of_eq h k
  · exact O.trans a b e h (by omega)
def Cut (P : Nat → Prop) (lo hi i j : Nat) : Prop := lo ≤ i ∧ i ≤ j ∧ j ≤ hi ∧ (∀ t, lo ≤ t → t < i → P t) ∧ ∀ t, j ≤ t → t < hi → ¬ P t
def Mono (P : Nat → Prop) (lo hi : Nat) : Prop := ∀ t t', lo ≤ t → t < t' → t' < hi → P t' → P t
theorem Cut.start {P : Nat → Prop} {lo hi : Nat} (h : lo ≤ hi) : Cut P lo hi lo hi := ⟨Nat.le_refl _, h, Nat.le_refl _, fun t a b => by omega, fun t a b => by omega⟩
theorem Cut.yes {P : Nat → Prop} {lo hi i j m : Nat} (M : Mono P lo hi) (h : Cut P lo hi i j) (h1 : i ≤ m) (h2 : m < j) (hp : P m) : Cut P lo hi (m + 1) j := by
  obtain ⟨a, b, e, f, g⟩ := h
  refine ⟨by omega, by omega, e, fun t x y => ?_, g⟩
  by_cases k : t = m
  · rw [k]; exact hp
  · exact M t m x (by omega) (by omega) hp
theorem Cut.no {P : Nat → Prop} {lo hi i j m : Nat} (M : Mono P lo hi) (h : Cut P lo hi i j) (h1 : i ≤ m) (h2 : m < j) (hp : ¬ P m) : Cut P lo hi i m := by
  obtain ⟨a, b, e, f, g⟩ := h
  refine ⟨a, h1, by omega, f, fun t x y k => ?_⟩
  by_cases q : t = m
  · exact hp (q ▸ k)
  · exact hp (M m t (by omega) (by omega) y k)
theorem getD_get (l : List α) (d : α) {t : Nat} (h : t < l.length) : l.getD t d = l[t] := by simp [List.getD, h]
theorem mem_take_getD {l : List α} (d : α) {i : Nat} {y : α} (h : y ∈ l.take i) : ∃ t, t < i ∧ t < l.length ∧ l.getD t d = y := by
  obtain ⟨t, ht, rfl⟩ := List.getElem_of_mem h
  rw [List.length_take] at ht
  exact ⟨t, by omega, by omega, by rw [getD_get l d (by omega), List.getElem_take]⟩
theorem mem_drop_getD {l : List α} (d : α) {i : Nat} {y : α} (h : y ∈ l.drop i) : ∃ t, i ≤ t ∧ t < l.length ∧ l.getD t d = y := by
  obtain ⟨t, ht, rfl⟩ := List.getElem_of_mem h
  rw [List.length_drop] at ht
  exact ⟨i + t, by omega, by omega, by rw [getD_get l d (by omega), List.getElem_drop]⟩
theorem sorted_getD {l : List α} (O : POrd c) (h : Sorted c l) (d : α) {i j : Nat} (hij : i ≤ j) (hj : j < l.length) : c (l.getD i d) (l.getD j d) ≤ 0 := by
  by_cases e : i = j
  · subst e; rw [O.refl]; omega
  · rw [getD_get l d (by omega), getD_get l d hj]; exact List.pairwise_iff_getElem.mp h i j (by omega) hj (by omega)
theorem mono_low (O : POrd c) (d x : α) {r : List α} (h : Sorted c r) : Mono (fun t => c (r.getD t d) x < 0) 0 r.length := fun t t' _ h1 h2 h3 => O.lt_of_le_of_lt (sorted_getD O h d (by omega) h2) h3
theorem mono_high (O : POrd c) (d y : α) {l : List α} (h : Sorted c l) : Mono (fun t => 0 ≤ c y (l.getD t d)) 0 l.length := fun t t' _ h1 h2 h3 => Int.not_lt.mp fun k => Int.not_lt.mpr h3 (O.lt_of_lt_of_le k (sorted_getD O h d (by omega) h2))
theorem low_done (O : POrd c) (d x : α) {r : List α} (h : Sorted c r) {i : Nat} (C : Cut (fun t => c (r.getD t d) x < 0) 0 r.length i i) : StableOf c ([x] ++ r) (r.take i ++ x :: r.drop i) := by
  have := stable_front O (r1 := r.take i) (r2 := r.drop i) (x := x) (by rw [List.take_append_drop]; exact h) (fun y hy => by
    obtain ⟨t, h1, h2, rfl⟩ := mem_take_getD d hy
    exact C.2.2.2.1 t (Nat.zero_le _) h1) (fun y hy => by
    obtain ⟨t, h1, h2, rfl⟩ := mem_drop_getD d hy
    exact Int.not_lt.mp (C.2.2.2.2 t h1 h2))
  rwa [List.take_append_drop] at this
theorem high_done (O : POrd c) (d y : α) {l : List α} (h : Sorted c l) {i : Nat} (C : Cut (fun t => 0 ≤ c y (l.getD t d)) 0 l.length i i) : StableOf c (l ++ [y]) (l.take i ++ y :: l.drop i) := by
  have := stable_insert O (l1 := l.take i) (l2 := l.drop i) (x := y) (by rw [List.take_append_drop]; exact h) (fun z hz => by
    obtain ⟨t, h1, h2, rfl⟩ := mem_take_getD d hz
    have h3 := C.2.2.2.1 t (Nat.zero_le _) h1
    have := O.flip y (l.getD t d)
    omega) (fun z hz => by
    obtain ⟨t, h1, h2, rfl⟩ := mem_drop_getD d hz
    exact Int.not_le.mp (C.2.2.2.2 t h1 h2))
  rwa [List.take_append_drop] at this
theorem mono_part (O : POrd c) (d : α) {l r : List α} (hl : Sorted c l) (hr : Sorted c r) {H lo hi : Nat} (h1 : hi ≤ H) (h2 : hi ≤ l.length) (h3 : H ≤ lo + r.length) : Mono (fun t => 0 ≤ c (r.getD (H - 1 - t) d) (l.getD t d)) lo hi := fun t t' a b e f => Int.not_lt.mp fun k =>
  Int.not_lt.mpr f (O.lt_of_lt_of_le (O.lt_of_le_of_lt (sorted_getD O hr d (by omega) (by omega)) k) (sorted_getD O hl d (by omega) (by omega)))
theorem part_done (O : POrd c) (d : α) {l r m1 m2 : List α} (hl : Sorted c l) (hr : Sorted c r) {H lo hi u : Nat} (h1 : hi ≤ H) (h2 : hi ≤ l.length) (h3 : H ≤ lo + r.length) (h4 : lo = 0 ∨ lo + r.length = H) (h5 : hi = H ∨ hi = l.length)
    (C : Cut (fun t => 0 ≤ c (r.getD (H - 1 - t) d) (l.getD t d)) lo hi u u) (s1 : StableOf c (l.take u ++ r.take (H - u)) m1) (s2 : StableOf c (l.drop u ++ r.drop (H - u)) m2) : StableOf c (l ++ r) (m1 ++ m2) := by
  obtain ⟨a, _, b, e, f⟩ := C
  have := stable_halves O (l1 := l.take u) (l2 := l.drop u) (r1 := r.take (H - u)) (r2 := r.drop (H - u)) (by rw [List.take_append_drop]; exact hl) (by rw [List.take_append_drop]; exact hr) (fun x hx y hy => by
    obtain ⟨t, k1, k2, rfl⟩ := mem_take_getD d hx
    obtain ⟨j, k3, k4, rfl⟩ := mem_drop_getD d hy
    have h := e (u - 1) (by omega) (by omega)
    have g := O.flip (r.getD (H - 1 - (u - 1)) d) (l.getD (u - 1) d)
    exact O.le_trans (O.le_trans (sorted_getD O hl d (i := t) (j := u - 1) (by omega) (by omega)) (show c _ (r.getD (H - 1 - (u - 1)) d) ≤ 0 by omega)) (sorted_getD O hr d (by omega) k4)) (fun y hy x hx => by
    obtain ⟨t, k1, k2, rfl⟩ := mem_take_getD d hy
    obtain ⟨j, k3, k4, rfl⟩ := mem_drop_getD d hx
    have h := Int.not_le.mp (f u (Nat.le_refl _) (by omega))
    exact O.lt_of_lt_of_le (O.lt_of_le_of_lt (sorted_getD O hr d (i := t) (j := H - 1 - u) (by omega) (by omega)) h) (sorted_getD O hl d (by omega) k4)) s1 s2
  rwa [List.take_append_drop, List.take_append_drop] at this
theorem get_seg (d : α) (p l s : List α) {t : Nat} (h : t < l.length) {i : Nat} (hi : i = p.length + t) : (p ++ (l ++ s))[i]? = some (l.getD t d) := by
  subst hi
  rw [List.getElem?_append_right (by omega), Nat.add_sub_cancel_left, List.getElem?_append_left h, getD_get l d h, List.getElem?_eq_getElem h]
theorem shift_forms (p v z : List α) (x : α) {q : Nat} (hq : q < v.length) : p ++ (v.take q ++ x :: (v.drop q ++ z)) = (p ++ v.take q) ++ x :: v[q] :: (v.drop (q + 1) ++ z) ∧ p ++ (v.take (q + 1) ++ x :: (v.drop (q + 1) ++ z)) = (p ++ v.take q) ++ v[q] :: x :: (v.drop (q + 1) ++ z) ∧ (p ++ v.take q).length = p.length + q := by
  have h1 : v.drop q = v[q] :: v.drop (q + 1) := List.drop_eq_getElem_cons hq
  have h2 : v.take (q + 1) = v.take q ++ [v[q]] := List.take_succ_eq_append_getElem hq
  refine ⟨by rw [h1]; simp only [List.append_assoc, List.cons_append], by rw [h2]; simp only [List.append_assoc, List.cons_append, List.nil_append], by rw [List.length_append, List.length_take]; omega⟩
theorem get_at2 (p s : List α) (x y : α) : (p ++ x :: y :: s)[p.length + 1]? = some y := by
  have := get_at (p ++ [x]) s y
  simpa only [List.append_assoc, List.cons_append, List.nil_append, List.length_append, List.length_cons, List.length_nil, Nat.zero_add] using this
theorem shift_up (p v z : List α) (x : α) {k q : Nat} (hq : q < v.length) (hk : p.length + q = k) : ∃ y, (p ++ (v.take q ++ x :: (v.drop q ++ z)))[k]? = some x ∧ (p ++ (v.take q ++ x :: (v.drop q ++ z)))[k + 1]? = some y ∧ ((p ++ (v.take q ++ x :: (v.drop q ++ z))).set k y).set (k + 1) x = p ++ (v.take (q + 1) ++ x :: (v.drop (q + 1) ++ z)) := by
  obtain ⟨e1, e2, e3⟩ := shift_forms p v z x hq
  rw [hk] at e3
  rw [e1, e2, ← e3]
  exact ⟨_, get_at _ _ _, get_at2 _ _ _ _, sw_adj2 _ _ _ _ _ rfl⟩
theorem shift_down (p v z : List α) (x : α) {k q : Nat} (hq : q < v.length) (hk : p.length + q = k) : ∃ y, (p ++ (v.take (q + 1) ++ x :: (v.drop (q + 1) ++ z)))[k]? = some y ∧ (p ++ (v.take (q + 1) ++ x :: (v.drop (q + 1) ++ z)))[k + 1]? = some x ∧ ((p ++ (v.take (q + 1) ++ x :: (v.drop (q + 1) ++ z))).set (k + 1) y).set k x = p ++ (v.take q ++ x :: (v.drop q ++ z)) := by
  obtain ⟨e1, e2, e3⟩ := shift_forms p v z x hq
  rw [hk] at e3
  rw [e1, e2, ← e3]
  exact ⟨_, get_at _ _ _, get_at2 _ _ _ _, sw_adj _ _ _ _ _ rfl⟩
end Go.Proofs.Ytehdkopjgcoclaa.SetLaw
namespace Go.Proofs.Ytehdkopjgcoclaa.Rrs
open Go.RowKit Go.Proofs.YtehdkopjgcoclaaW.PrintWords Go.Proofs.YtehdkopjgcoclaaW.PrintLast Go.Proofs.YtehdkopjgcoclaaW.PrintMore Go.Proofs.Ytehdkopjgcoclaa.Given Go.Proofs.Ytehdkopjgcoclaa.PRd Go.Proofs.Ytehdkopjgcoclaa.PRr Go.Proofs.Ytehdkopjgcoclaa.SetLaw
set_option linter.unusedVariables false
theorem Row.below {w w' : World} {base g cap : Nat} {l : List RR} {rest : List Value} (h : Row w base g cap l rest) (hb : Below w.heap.size w w') : Row w' base g cap l rest := ⟨blk_below h.blk hb, h.lo, h.fits, h.len⟩
theorem Row.drew {w : World} {base g cap : Nat} {l : List RR} {rest : List Value} (h : Row w base g cap l rest) : Row w.drew base g cap l rest := ⟨blk_drew h.blk, h.lo, h.fits, h.len⟩
def Own (w0 : World) (base g c : Nat) (rest : List Value) (w : World) (l : List RR) : Prop := Row w base g c l rest ∧ Below base w0 w
section
variable {w0 w : World} {base g c : Nat} {rest : List Value} {l : List RR}
theorem Own.drew (h : Own w0 base g c rest w l) : Own w0 base g c rest w.drew l := ⟨h.1.drew, below_drew1 h.2⟩
theorem Own.below (h : Own w0 base g c rest w l) {w' : World} (hb : Below w.heap.size w w') : Own w0 base g c rest w' l := ⟨h.1.below hb, below_then h.2 (Nat.le_trans h.1.lo (Nat.le_of_lt (blk_lt h.1.blk))) hb⟩
theorem flat_at {i : Nat} {x : RR} (h : l[i]? = some x) (k : Nat) (hk : k < 5) : (flat l)[i * 5 + k]? = (cellsR x)[k]? := by
  obtain ⟨hi, e⟩ := List.getElem?_eq_some_iff.1 h
  rw [← List.getElem?_drop, flat_drop l i (by omega), List.drop_eq_getElem_cons hi, e, flat, List.getElem?_append_left (by rw [cellsR_length]; exact hk)]
theorem Own.at5 (h : Own w0 base g c rest w l) {i : Nat} {x : RR} (hx : l[i]? = some x) : w.cell? ⟨g, i * 5, none⟩ = some (.string x.f0) ∧ w.cell? ⟨g, i * 5 + 1, none⟩ = some (.int .i64 x.f1) ∧ w.cell? ⟨g, i * 5 + 2, none⟩ = some (.int .i64 x.f2) ∧ w.cell? ⟨g, i * 5 + 3, none⟩ = some (.int .i64 x.f3) ∧ w.cell? ⟨g, i * 5 + 4, none⟩ = some (.string x.f4) ∧
    w.frozen? ⟨g, i * 5, none⟩ = false ∧ w.frozen? ⟨g, i * 5 + 1, none⟩ = false ∧ w.frozen? ⟨g, i * 5 + 2, none⟩ = false ∧ w.frozen? ⟨g, i * 5 + 3, none⟩ = false ∧ w.frozen? ⟨g, i * 5 + 4, none⟩ = false :=
  have f := fun p => blk_frozen h.1.blk p
  ⟨h.1.cell _ _ (flat_at hx 0 (by decide)), h.1.cell _ _ (flat_at hx 1 (by decide)), h.1.cell _ _ (flat_at hx 2 (by decide)), h.1.cell _ _ (flat_at hx 3 (by decide)), h.1.cell _ _ (flat_at hx 4 (by decide)), f _, f _, f _, f _, f _⟩
abbrev put5 (w : World) (g p : Nat) (x : RR) : World := ((((w.setCell ⟨g, p, none⟩ (.string x.f0)).setCell ⟨g, p + 1, none⟩ (.int .i64 x.f1)).setCell ⟨g, p + 2, none⟩ (.int .i64 x.f2)).setCell ⟨g, p + 3, none⟩ (.int .i64 x.f3)).setCell ⟨g, p + 4, none⟩ (.string x.f4)
theorem Own.put (h : Own w0 base g c rest w l) (x : RR) (p : Nat) (hp : p < l.length) : Own w0 base g c rest (put5 w g (p * 5) x) (l.set p x) :=
  ⟨h.1.put x p hp _ _ _ _ _ rfl, ((((h.2.setCell (p := ⟨g, p * 5, none⟩) h.1.lo _).setCell (p := ⟨g, p * 5 + 1, none⟩) h.1.lo _).setCell (p := ⟨g, p * 5 + 2, none⟩) h.1.lo _).setCell (p := ⟨g, p * 5 + 3, none⟩) h.1.lo _).setCell (p := ⟨g, p * 5 + 4, none⟩) h.1.lo _⟩
theorem Own.next (h : Own w0 base g c rest w l) {i j : Nat} {x : RR} (y : RR) (hi : i < l.length) (hx : l[j]? = some x) (hn : i ≠ j) : Own w0 base g c rest (put5 w g (i * 5) y) (l.set i y) ∧ (l.set i y)[j]? = some x := ⟨h.put y i hi, by rw [List.getElem?_set_ne hn]; exact hx⟩
theorem Own.swap (h : Own w0 base g c rest w l) {i j : Nat} {x y : RR} (hx : l[i]? = some x) (hy : l[j]? = some y) : Own w0 base g c rest (put5 (put5 w g (i * 5) y) g (j * 5) x) ((l.set i y).set j x) :=
  (h.put y i (List.getElem?_eq_some_iff.1 hx).1).put x j (by rw [List.length_set]; exact (List.getElem?_eq_some_iff.1 hy).1)
end
abbrev cmpV : Value := .func (.func 44) #[] #[]
theorem cmp_fine {x y : RR} (hx : fine x) (hy : fine y) (w : World) : Calls Try.prog 44 #[x.v, y.v] w fun e w' => e = .returned (.int .i64 (cmpRR x y)) ∧ Below w.heap.size w w' :=
  cmp_calls 1000 x y _ w (cmpO_eq x y hx.1 hy.1 hx.2 hy.2 1000 (Nat.le_refl _))
theorem w64i {x : Int} {n : Nat} (h : x = (n : Int)) (hn : n ≤ 9223372036854775807) : IntKind.i64.wrap x = (n : Int) := by rw [h, IntKind.wrap_i64]; omega
theorem lt_some {α : Type} {l : List α} {i : Nat} (h : i < l.length) : ∃ x, l[i]? = some x := ⟨_, List.getElem?_eq_getElem h⟩
end Go.Proofs.Ytehdkopjgcoclaa.Rrs
namespace Go.Proofs.Ytehdkopjgcoclaa.Rrs
open Go.RowKit Go.Proofs.YtehdkopjgcoclaaW.PrintWords Go.Proofs.YtehdkopjgcoclaaW.PrintLast Go.Proofs.YtehdkopjgcoclaaW.PrintMore Go.Proofs.Ytehdkopjgcoclaa.Given Go.Proofs.Ytehdkopjgcoclaa.PRd Go.Proofs.Ytehdkopjgcoclaa.PRr Go.Proofs.Ytehdkopjgcoclaa.SetLaw
set_option linter.unusedVariables false
set_option linter.unusedSimpArgs false
abbrev zR : RR := ⟨⟨#[]⟩, 0, 0, 0, ⟨#[]⟩⟩
theorem half_ (i j : Nat) (hb : i + j ≤ 4000000) : ∃ k h : Nat, IntKind.i64.wrap ((i : Int) + (j : Int)) = (k : Int) ∧ IntKind.u64.wrap (k : Int) = (k : Int) ∧ (k : Int) / 2 = (h : Int) ∧ IntKind.i64.wrap (h : Int) = (h : Int) ∧ IntKind.i64.wrap ((h : Int) + 1) = ((h + 1 : Nat) : Int) ∧ 2 * h ≤ i + j ∧ i + j ≤ 2 * h + 1 := by
  refine ⟨i + j, (i + j) / 2, w64i (by omega) (by omega), ?_, by omega, w64i rfl (by omega), w64i (by omega) (by omega), by omega, by omega⟩
  have e2 : ((i + j : Nat) : Int) % 2 ^ 64 = ((i + j : Nat) : Int) := by omega
  simp only [IntKind.wrap, IntKind.bits, IntKind.signed, e2]; rw [if_neg (by simp)]
set_option maxHeartbeats 8000000 in
set_option maxRecDepth 100000 in
theorem sym_one {w0 : World} {base g c : Nat} {rest : List Value} (p r s : List RR) (x : RR) (hr0 : 0 < r.length) (hs : Sorted cmpRR r) (hfx : fine x) (hf : ∀ y ∈ r, fine y) {N a m b : Nat} (hn : N ≤ 1000000) (hN : (p ++ ([x] ++ (r ++ s))).length = N) (ha : p.length = a) (hm : a + 1 = m) (hb : m + r.length = b) (w : World) (HO : Own w0 base g c rest w (p ++ ([x] ++ (r ++ s)))) :
    Calls Try.prog 79 #[.slice (some ⟨g, 0, none⟩) N c, .int .i64 (a : Int), .int .i64 (m : Int), .int .i64 (b : Int), cmpV] w fun e w' => e = .returned (.tuple #[]) ∧ ∃ mm, StableOf cmpRR ([x] ++ r) mm ∧ mm.length = 1 + r.length ∧ Own w0 base g c rest w' (p ++ (mm ++ s)) := by
  have hu22 := Try.underlying24
  have hu41 := Try.underlying33
  have hl : (p ++ ([x] ++ (r ++ s))).length = p.length + 1 + r.length + s.length := by simp; omega
  rw [hN] at hl
  obtain ⟨R, hR⟩ : ∃ R, r.length = R := ⟨_, rfl⟩
  have HR := Lib.hid HO
  have HF := Lib.hid hf
  have HM := Lib.hid (mono_low ordRR zR x hs)
  have HFX := Lib.hid hfx
  have HS := Lib.hid hs
  have HL := Lib.hid hR
  have HA := Lib.hid ha
  have h1 : a + 1 ≤ m ∧ m ≤ a + 1 := by omega
  have h2 : m + R ≤ b ∧ b ≤ m + R ∧ b ≤ N ∧ 0 < R := by omega
  have e1 : IntKind.i64.wrap ((m : Int) - (a : Int)) = 1 := w64i (n := 1) (by omega) (by omega)
  have hcx : (p ++ ([x] ++ (r ++ s)))[a]? = some x := by rw [← ha]; exact SetLaw.get_at _ _ _
  have HCX := Lib.hid hcx
  have hrd : ∀ t h, t < R → m + t = h → (p ++ ([x] ++ (r ++ s)))[h]? = some (r.getD t zR) := fun t h ht e => by
    have := get_seg zR (p ++ [x]) r s (t := t) (by omega) (i := h) (by simp; omega)
    rwa [List.append_assoc] at this
  have HRD := Lib.hid hrd
  clear HO hf hfx hs hN hl ha hm hb hcx hrd hR hr0
  go_enter Try.func79, Try.ntmps79
  go_wp2_with fail
  go_loopg [10, 11] R (fun kx si sj wr => ∃ (i j u v : Nat), si = .int .i64 (i : Int) ∧ sj = .int .i64 (j : Int) ∧ i ≤ m + u ∧ m + u ≤ i ∧ j ≤ m + v ∧ m + v ≤ j ∧ u ≤ v ∧ v ≤ R ∧ v - u ≤ kx ∧ Hid (Cut (fun t => cmpRR (r.getD t zR) x < 0) 0 r.length u v) ∧ Hid (Own w0 base g c rest wr (p ++ ([x] ++ (r ++ s)))))
  case atStart => exact ⟨m, b, 0, R, rfl, rfl, by omega, by omega, by omega, by omega, by omega, by omega, by omega, Lib.hid (by rw [← HL.out]; exact Cut.start (Nat.zero_le _)), HR⟩
  case round =>
    clear HR
    obtain ⟨i, j, u, v, rfl, rfl, i1, i2, j1, j2, huv, hv, hk, HC, HR⟩ := hrel
    by_cases hlt : u < v
    · obtain ⟨k, h, k1, k2, k3, k4, k5, k6, k7⟩ := half_ i j (by omega)
      have hltz : (i : Int) < (j : Int) := by omega
      obtain ⟨q, hq⟩ : ∃ q, h - m = q := ⟨_, rfl⟩
      have q1 : m + q = h := by omega
      have q2 : u ≤ q ∧ q < v := by omega
      obtain ⟨y, hy⟩ : ∃ y, r.getD q zR = y := ⟨_, rfl⟩
      have hcy := HRD.out q h (by omega) q1
      rw [hy] at hcy
      have hfy : fine y := by rw [← hy, getD_get r zR (by rw [HL.out]; omega)]; exact HF.out _ (List.getElem_mem _)
      obtain ⟨y0, y1, y2, y3, y4, y5, y6, y7, y8, y9⟩ := HR.out.at5 hcy
      obtain ⟨x0, x1, x2, x3, x4, x5, x6, x7, x8, x9⟩ := HR.out.at5 HCX.out
      have HY := Lib.hid hy
      have HQ := Lib.hid q1
      have p0 : (0 : Int) ≤ (h : Int) := by omega
      have p1 : (h : Int) < (N : Int) := by omega
      have p2 : (0 : Int) ≤ (a : Int) := by omega
      have p3 : (a : Int) < (N : Int) := by omega
      clear hq q1 hy hcy
      go_wp2_with fail
      go_still_tail 9, (by kernel_rfl)
      change wpList _ _ _ _ _ wr.drew
      clear x0 x1 x2 x3 x4 x5 x6 x7 x8 x9 y0 y1 y2 y3 y4 y5 y6 y7 y8 y9
      have HR1 := Lib.hid HR.out.drew
      have hcall := cmp_fine hfy HFX.out wr.drew
      clear HR hfy
      generalize wr.drew = wd at HR1 hcall
      have HCALL := Lib.hid hcall
      clear hcall
      go_wp2_with fail
      refine (HCALL.out).mono ?_
      rintro en w4 ⟨rfl, hb4⟩
      have HR := Lib.hid (HR1.out.below hb4)
      clear hb4 HR1 HCALL
      obtain ⟨o, ho⟩ : ∃ o, cmpRR y x = o := ⟨_, rfl⟩
      rw [ho]
      have HO := Lib.hid ho
      clear ho
      by_cases hlv : o < 0
      · obtain ⟨h1', hh1⟩ : ∃ h1', h + 1 = h1' := ⟨_, rfl⟩
        rw [hh1] at k5
        have hh2 : h + 1 ≤ h1' ∧ h1' ≤ h + 1 := by omega
        have HC2 := Lib.hid (HC.out.yes (HM.out) q2.1 q2.2 (by rw [HY.out, HO.out]; exact hlv))
        clear hh1
        go_wp2_with fail
        go_roundg (v - (q + 1))
        case measure => omega
        case rel => exact ⟨h1', j, q + 1, v, rfl, rfl, by have := HQ.out; omega, by have := HQ.out; omega, j1, j2, by omega, hv, Nat.le_refl _, HC2, HR⟩
      · have HC2 := Lib.hid (HC.out.no (HM.out) q2.1 q2.2 (by rw [HY.out, HO.out]; exact hlv))
        go_wp2_with fail
        go_roundg (q - u)
        case measure => omega
        case rel => exact ⟨i, h, u, q, rfl, rfl, i1, i2, by have := HQ.out; omega, by have := HQ.out; omega, q2.1, by omega, Nat.le_refl _, HC2, HR⟩
    · have hltz : ¬ (i : Int) < (j : Int) := by omega
      obtain rfl : u = v := by omega
      have HD := Lib.hid (low_done ordRR zR x HS.out (i := u) HC.out)
      have hul : u ≤ r.length := by rw [HL.out]; exact hv
      obtain ⟨z, hz⟩ : ∃ z, r.drop u ++ s = z := ⟨_, rfl⟩
      have hcur : p ++ ([x] ++ (r ++ s)) = p ++ ([] ++ x :: (r.take u ++ z)) := by rw [← hz, ← List.append_assoc (r.take u), List.take_append_drop]; simp
      rw [hcur] at HR
      have hfin : p ++ ((r.take u ++ x :: r.drop u) ++ s) = p ++ (r.take u ++ x :: z) := by rw [← hz]; simp
      have HFIN := Lib.hid hfin
      obtain ⟨v1, hv1⟩ : ∃ v1, r.take u = v1 := ⟨_, rfl⟩
      have hvl : v1.length = u := by rw [← hv1, List.length_take]; omega
      rw [hv1] at HR HFIN HD
      have HVL := Lib.hid hvl
      obtain ⟨i0, hi0⟩ : ∃ i0, a + u = i0 := ⟨_, rfl⟩
      have ei : IntKind.i64.wrap ((i : Int) - 1) = (i0 : Int) := w64i (by omega) (by omega)
      have i3 : i0 ≤ a + u ∧ a + u ≤ i0 := by omega
      have HRL : Hid (v1.length + (r.drop u).length = r.length) := Lib.hid (by rw [hvl, List.length_drop]; omega)
      clear HC hcur hz hfin hv1 hvl hi0 hul HM HF HRD HCX HS
      go_wp2_with fail
      go_loopg [13] u (fun kx sk wr => ∃ (k q : Nat), sk = .int .i64 (k : Int) ∧ k ≤ a + q ∧ a + q ≤ k ∧ q ≤ u ∧ u - q ≤ kx ∧ Hid (Own w0 base g c rest wr (p ++ (v1.take q ++ x :: (v1.drop q ++ z)))))
      case atStart => exact ⟨a, 0, rfl, by omega, by omega, by omega, by omega, by rw [List.take_zero, List.drop_zero]; exact HR⟩
      case round =>
        clear HR
        obtain ⟨k, q, rfl, k1, k2, hq, hkq, HR⟩ := hrel
        by_cases hlt : q < u
        · obtain ⟨y, hx, hy, hs⟩ := shift_up p v1 z x (k := k) (q := q) (by rw [HVL.out]; exact hlt) (by rw [HA.out]; omega)
          obtain ⟨k', hk'⟩ : ∃ k', k + 1 = k' := ⟨_, rfl⟩
          have ek : IntKind.i64.wrap ((k : Int) + 1) = (k' : Int) := w64i (by omega) (by omega)
          obtain ⟨cur, hc⟩ : ∃ cur, p ++ (v1.take q ++ x :: (v1.drop q ++ z)) = cur := ⟨_, rfl⟩
          rw [hk'] at hy hs
          rw [hc] at hx hy hs HR
          have HS2 := Lib.hid (HR.out.swap hx hy).drew
          rw [hs] at HS2
          obtain ⟨D2, hy2⟩ := HR.out.next y (List.getElem?_eq_some_iff.1 hx).1 hy (show k ≠ k' by omega)
          obtain ⟨x0, x1, x2, x3, x4, x5, x6, x7, x8, x9⟩ := HR.out.at5 hx
          obtain ⟨y0, y1, y2, y3, y4, y5, y6, y7, y8, y9⟩ := HR.out.at5 hy
          obtain ⟨z0, z1, z2, z3, z4, z5, z6, z7, z8, z9⟩ := D2.at5 hy2
          have hltz : (k : Int) < (i0 : Int) := by omega
          have p0 : (0 : Int) ≤ (k : Int) := by omega
          have p1 : (k : Int) < (N : Int) := by omega
          have p2 : (0 : Int) ≤ (k' : Int) := by omega
          have p3 : (k' : Int) < (N : Int) := by omega
          have k3 : k' ≤ a + (q + 1) ∧ a + (q + 1) ≤ k' := by omega
          clear HR D2 hy2 hx hy hs hc hk'
          go_wp2_with fail
          go_big_region
          all_goals go_wp2
          go_roundg (u - (q + 1))
          case measure => omega
          case rel => exact ⟨k', q + 1, rfl, k3.1, k3.2, hlt, Nat.le_refl _, HS2⟩
        · have hltz : ¬ (k : Int) < (i0 : Int) := by omega
          obtain rfl : q = u := by omega
          have hr := HR.out
          rw [List.take_of_length_le (by rw [HVL.out]; exact Nat.le_refl _), List.drop_of_length_le (by rw [HVL.out]; exact Nat.le_refl _), List.nil_append, ← HFIN.out] at hr
          have HR2 := Lib.hid hr
          clear hr HR
          go_wp2_with fail
          refine bodyPost_ret (results_none rfl _ _ _) rfl ?_
          exact ⟨rfl, _, HD.out, by have := HRL.out; simp at this ⊢; omega, HR2.out⟩
end Go.Proofs.Ytehdkopjgcoclaa.Rrs
namespace Go.Proofs.Ytehdkopjgcoclaa.Rrs
open Go.RowKit Go.Proofs.YtehdkopjgcoclaaW.PrintWords Go.Proofs.YtehdkopjgcoclaaW.PrintLast Go.Proofs.YtehdkopjgcoclaaW.PrintMore Go.Proofs.Ytehdkopjgcoclaa.Given Go.Proofs.Ytehdkopjgcoclaa.PRd Go.Proofs.Ytehdkopjgcoclaa.PRr Go.Proofs.Ytehdkopjgcoclaa.SetLaw
set_option linter.unusedVariables false
set_option linter.unusedSimpArgs false
set_option maxHeartbeats 8000000 in
set_option maxRecDepth 100000 in
theorem sym_two {w0 : World} {base g c : Nat} {rest : List Value} (p l s : List RR) (y : RR) (hl0 : 1 < l.length) (hs : Sorted cmpRR l) (hfy : fine y) (hf : ∀ x ∈ l, fine x) {N a m b : Nat} (hn : N ≤ 1000000) (hN : (p ++ (l ++ ([y] ++ s))).length = N) (ha : p.length = a) (hm : a + l.length = m) (hb : m + 1 = b) (w : World) (HO : Own w0 base g c rest w (p ++ (l ++ ([y] ++ s)))) :
    Calls Try.prog 79 #[.slice (some ⟨g, 0, none⟩) N c, .int .i64 (a : Int), .int .i64 (m : Int), .int .i64 (b : Int), cmpV] w fun e w' => e = .returned (.tuple #[]) ∧ ∃ mm, StableOf cmpRR (l ++ [y]) mm ∧ mm.length = l.length + 1 ∧ Own w0 base g c rest w' (p ++ (mm ++ s)) := by
  have hu22 := Try.underlying24
  have hu41 := Try.underlying33
  have hl : (p ++ (l ++ ([y] ++ s))).length = p.length + l.length + 1 + s.length := by simp; omega
  rw [hN] at hl
  obtain ⟨A, hA⟩ : ∃ A, l.length = A := ⟨_, rfl⟩
  have HR := Lib.hid HO
  have HF := Lib.hid hf
  have HM := Lib.hid (mono_high ordRR zR y hs)
  have HFY := Lib.hid hfy
  have HS := Lib.hid hs
  have HL := Lib.hid hA
  have HA := Lib.hid ha
  have h1 : b ≤ m + 1 ∧ m + 1 ≤ b ∧ b ≤ N ∧ 1 < A := by omega
  have h2 : m ≤ a + A ∧ a + A ≤ m := by omega
  have e1 : IntKind.i64.wrap ((m : Int) - (a : Int)) = (A : Int) := w64i (by omega) (by omega)
  have e2 : IntKind.i64.wrap ((b : Int) - (m : Int)) = 1 := w64i (n := 1) (by omega) (by omega)
  have e3 : ((A : Int) == 1) = false := beq_false_of_ne (by omega)
  have hcy : (p ++ (l ++ ([y] ++ s)))[m]? = some y := by
    have := SetLaw.get_at (p ++ l) s y
    rw [List.length_append, ha, hA, show a + A = m by omega] at this
    simpa using this
  have HCY := Lib.hid hcy
  have hrd : ∀ t h, t < A → a + t = h → (p ++ (l ++ ([y] ++ s)))[h]? = some (l.getD t zR) := fun t h ht e => get_seg zR p l ([y] ++ s) (t := t) (by omega) (i := h) (by omega)
  have HRD := Lib.hid hrd
  clear HO hf hfy hs hN hl ha hm hb hcy hrd hA hl0
  go_enter Try.func79, Try.ntmps79
  go_wp2_with fail
  go_loopg [14, 15] A (fun kx si sj wr => ∃ (i j u v : Nat), si = .int .i64 (i : Int) ∧ sj = .int .i64 (j : Int) ∧ i ≤ a + u ∧ a + u ≤ i ∧ j ≤ a + v ∧ a + v ≤ j ∧ u ≤ v ∧ v ≤ A ∧ v - u ≤ kx ∧ Hid (Cut (fun t => 0 ≤ cmpRR y (l.getD t zR)) 0 l.length u v) ∧ Hid (Own w0 base g c rest wr (p ++ (l ++ ([y] ++ s)))))
  case atStart => exact ⟨a, m, 0, A, rfl, rfl, by omega, by omega, by omega, by omega, by omega, by omega, by omega, Lib.hid (by rw [← HL.out]; exact Cut.start (Nat.zero_le _)), HR⟩
  case round =>
    clear HR
    obtain ⟨i, j, u, v, rfl, rfl, i1, i2, j1, j2, huv, hv, hk, HC, HR⟩ := hrel
    by_cases hlt : u < v
    · obtain ⟨k, h, k1, k2, k3, k4, k5, k6, k7⟩ := half_ i j (by omega)
      have hltz : (i : Int) < (j : Int) := by omega
      obtain ⟨q, hq⟩ : ∃ q, h - a = q := ⟨_, rfl⟩
      have q1 : a + q = h := by omega
      have q2 : u ≤ q ∧ q < v := by omega
      obtain ⟨x, hx⟩ : ∃ x, l.getD q zR = x := ⟨_, rfl⟩
      have hcx := HRD.out q h (by omega) q1
      rw [hx] at hcx
      have hfx : fine x := by rw [← hx, getD_get l zR (by rw [HL.out]; omega)]; exact HF.out _ (List.getElem_mem _)
      obtain ⟨y0, y1, y2, y3, y4, y5, y6, y7, y8, y9⟩ := HR.out.at5 HCY.out
      obtain ⟨x0, x1, x2, x3, x4, x5, x6, x7, x8, x9⟩ := HR.out.at5 hcx
      have HX := Lib.hid hx
      have HQ := Lib.hid q1
      have p0 : (0 : Int) ≤ (h : Int) := by omega
      have p1 : (h : Int) < (N : Int) := by omega
      have p2 : (0 : Int) ≤ (m : Int) := by omega
      have p3 : (m : Int) < (N : Int) := by omega
      clear hq q1 hx hcx
      go_wp2_with fail
      go_still_tail 9, (by kernel_rfl)
      change wpList _ _ _ _ _ wr.drew
      clear x0 x1 x2 x3 x4 x5 x6 x7 x8 x9 y0 y1 y2 y3 y4 y5 y6 y7 y8 y9
      have HR1 := Lib.hid HR.out.drew
      have hcall := cmp_fine HFY.out hfx wr.drew
      clear HR hfx
      generalize wr.drew = wd at HR1 hcall
      have HCALL := Lib.hid hcall
      clear hcall
      go_wp2_with fail
      refine (HCALL.out).mono ?_
      rintro en w4 ⟨rfl, hb4⟩
      have HR := Lib.hid (HR1.out.below hb4)
      clear hb4 HR1 HCALL
      obtain ⟨o, ho⟩ : ∃ o, cmpRR y x = o := ⟨_, rfl⟩
      rw [ho]
      have HO := Lib.hid ho
      clear ho
      by_cases hlv : o < 0
      · have HC2 := Lib.hid (HC.out.no (HM.out) q2.1 q2.2 (by rw [HX.out, HO.out]; omega))
        go_wp2_with fail
        go_roundg (q - u)
        case measure => omega
        case rel => exact ⟨i, h, u, q, rfl, rfl, i1, i2, by have := HQ.out; omega, by have := HQ.out; omega, q2.1, by omega, Nat.le_refl _, HC2, HR⟩
      · obtain ⟨h1', hh1⟩ : ∃ h1', h + 1 = h1' := ⟨_, rfl⟩
        rw [hh1] at k5
        have hh2 : h + 1 ≤ h1' ∧ h1' ≤ h + 1 := by omega
        have HC2 := Lib.hid (HC.out.yes (HM.out) q2.1 q2.2 (by rw [HX.out, HO.out]; omega))
        have hlv' : decide (o < 0) = false := decide_eq_false hlv
        clear hh1
        go_wp2_with fail
        go_roundg (v - (q + 1))
        case measure => omega
        case rel => exact ⟨h1', j, q + 1, v, rfl, rfl, by have := HQ.out; omega, by have := HQ.out; omega, j1, j2, by omega, hv, Nat.le_refl _, HC2, HR⟩
    · have hltz : ¬ (i : Int) < (j : Int) := by omega
      obtain rfl : u = v := by omega
      have HD := Lib.hid (high_done ordRR zR y HS.out (i := u) HC.out)
      obtain ⟨p1, hp1⟩ : ∃ p1, p ++ l.take u = p1 := ⟨_, rfl⟩
      obtain ⟨v1, hv1⟩ : ∃ v1, l.drop u = v1 := ⟨_, rfl⟩
      have hul : u ≤ l.length := by rw [HL.out]; exact hv
      have hvl : v1.length = A - u := by rw [← hv1, List.length_drop, HL.out]
      have HPL : Hid (p1.length = a + u) := Lib.hid (by rw [← hp1, List.length_append, List.length_take, HA.out]; omega)
      have hcur : p ++ (l ++ ([y] ++ s)) = p1 ++ (v1.take (A - u) ++ y :: (v1.drop (A - u) ++ s)) := by
        rw [List.take_of_length_le (by omega), List.drop_of_length_le (by omega), ← hp1, ← hv1, List.nil_append, List.append_assoc, ← List.append_assoc (l.take u), List.take_append_drop]; rfl
      rw [hcur] at HR
      have HFIN : Hid (p ++ ((l.take u ++ y :: v1) ++ s) = p1 ++ (y :: (v1 ++ s))) := Lib.hid (by rw [← hp1]; simp)
      rw [hv1] at HD
      have HVL := Lib.hid hvl
      have HLL : Hid ((l.take u).length + v1.length = l.length) := Lib.hid (by rw [hvl, List.length_take, HL.out]; omega)
      have hAu : a + u + (A - u) ≤ m ∧ m ≤ a + u + (A - u) := by omega
      obtain ⟨B, hB⟩ : ∃ B, A - u = B := ⟨_, rfl⟩
      rw [hB] at HR hAu HVL
      clear HC hcur hp1 hv1 hvl hul HM HF HRD HCY HS hB HA
      go_wp2_with fail
      go_loopg [17] B (fun kx sk wr => ∃ (k q : Nat), sk = .int .i64 (k : Int) ∧ k ≤ a + u + q ∧ a + u + q ≤ k ∧ q ≤ B ∧ q ≤ kx ∧ Hid (Own w0 base g c rest wr (p1 ++ (v1.take q ++ y :: (v1.drop q ++ s)))))
      case atStart => exact ⟨m, B, rfl, by omega, by omega, by omega, by omega, HR⟩
      case round =>
        clear HR
        obtain ⟨k, q, rfl, k1, k2, hq, hkq, HR⟩ := hrel
        by_cases hlt : 0 < q
        · obtain ⟨q, rfl⟩ : ∃ q', q = q' + 1 := ⟨q - 1, by omega⟩
          obtain ⟨k', rfl⟩ : ∃ k', k = k' + 1 := ⟨k - 1, by omega⟩
          obtain ⟨x, hx, hy, hs⟩ := shift_down p1 v1 s y (k := k') (q := q) (by rw [HVL.out]; exact hq) (by rw [HPL.out]; omega)
          obtain ⟨k, hk'⟩ : ∃ k, k' + 1 = k := ⟨_, rfl⟩
          have ek : IntKind.i64.wrap ((k : Int) - 1) = (k' : Int) := w64i (by omega) (by omega)
          obtain ⟨cur, hc⟩ : ∃ cur, p1 ++ (v1.take (q + 1) ++ y :: (v1.drop (q + 1) ++ s)) = cur := ⟨_, rfl⟩
          rw [hk'] at hy hs k1 k2 ⊢
          rw [hc] at hx hy hs HR
          have HS2 := Lib.hid (HR.out.swap hy hx).drew
          rw [hs] at HS2
          obtain ⟨D2, hy2⟩ := HR.out.next x (List.getElem?_eq_some_iff.1 hy).1 hx (show k ≠ k' by omega)
          obtain ⟨x0, x1, x2, x3, x4, x5, x6, x7, x8, x9⟩ := HR.out.at5 hx
          obtain ⟨y0, y1, y2, y3, y4, y5, y6, y7, y8, y9⟩ := HR.out.at5 hy
          obtain ⟨z0, z1, z2, z3, z4, z5, z6, z7, z8, z9⟩ := D2.at5 hy2
          have hltz : (i : Int) < (k : Int) := by omega
          have p0 : (0 : Int) ≤ (k : Int) := by omega
          have p1 : (k : Int) < (N : Int) := by omega
          have p2 : (0 : Int) ≤ (k' : Int) := by omega
          have p3 : (k' : Int) < (N : Int) := by omega
          have k3 : k' ≤ a + u + q ∧ a + u + q ≤ k' := by omega
          clear HR D2 hy2 hx hy hs hc hk'
          go_wp2_with fail
          go_big_region
          all_goals go_wp2
          go_roundg q
          case measure => omega
          case rel => exact ⟨k', q, rfl, k3.1, k3.2, by omega, Nat.le_refl _, HS2⟩
        · have hltz : ¬ (i : Int) < (k : Int) := by omega
          obtain rfl : q = 0 := by omega
          have hr := HR.out
          rw [List.take_zero, List.drop_zero, List.nil_append, ← HFIN.out] at hr
          have HR2 := Lib.hid hr
          clear hr HR
          go_wp2_with fail
          refine bodyPost_ret (results_none rfl _ _ _) rfl ?_
          exact ⟨rfl, _, HD.out, by have := HLL.out; simp at this ⊢; omega, HR2.out⟩
end Go.Proofs.Ytehdkopjgcoclaa.Rrs
namespace Go.Proofs.Ytehdkopjgcoclaa.Rrs
open Go.RowKit Go.Proofs.YtehdkopjgcoclaaW.PrintWords Go.Proofs.YtehdkopjgcoclaaW.PrintLast Go.Proofs.YtehdkopjgcoclaaW.PrintMore Go.Proofs.Ytehdkopjgcoclaa.Given Go.Proofs.Ytehdkopjgcoclaa.PRd Go.Proofs.Ytehdkopjgcoclaa.PRr Go.Proofs.Ytehdkopjgcoclaa.SetLaw
set_option linter.unusedVariables false
set_option linter.unusedSimpArgs false
set_option maxHeartbeats 8000000 in
set_option maxRecDepth 100000 in
theorem swr_walk {w0 : World} {base g c : Nat} {rest : List Value} (l : List RR) (hn : l.length ≤ 1000000) (a b n : Nat) (h1 : a + n ≤ b) (h2 : b + n ≤ l.length) (w : World) (HO : Own w0 base g c rest w l) :
    Calls Try.prog 98 #[.slice (some ⟨g, 0, none⟩) l.length c, .int .i64 (a : Int), .int .i64 (b : Int), .int .i64 (n : Int), cmpV] w fun e w' => e = .returned (.tuple #[]) ∧ Own w0 base g c rest w' (swR l a b n) := by
  have hu22 := Try.underlying24
  have hu41 := Try.underlying33
  have HR := Lib.hid HO
  obtain ⟨N, hN⟩ : ∃ N, l.length = N := ⟨_, rfl⟩
  have HN := Lib.hid hN
  rw [hN] at hn h2 ⊢
  clear HO hN
  go_enter Try.func98, Try.ntmps98
  go_wp2_with fail
  go_loopg [10] n (fun kx s wr => ∃ i : Nat, s = .int .i64 (i : Int) ∧ i ≤ n ∧ n - i ≤ kx ∧ Hid (Own w0 base g c rest wr (swR l a b i)))
  case atStart => exact ⟨0, rfl, by omega, by omega, HR⟩
  case round =>
    clear HR
    obtain ⟨i, rfl, hi, hk, HR⟩ := hrel
    by_cases hlt : i < n
    · obtain ⟨cur, hc⟩ : ∃ cur, swR l a b i = cur := ⟨_, rfl⟩
      rw [hc] at HR
      have hl : cur.length = N := by rw [← hc, swR_length, HN.out]
      obtain ⟨x, hx⟩ := lt_some (show a + i < cur.length by omega)
      obtain ⟨y, hy⟩ := lt_some (show b + i < cur.length by omega)
      have eA : IntKind.i64.wrap ((a : Int) + (i : Int)) = ((a + i : Nat) : Int) := w64i (by omega) (by omega)
      have eB : IntKind.i64.wrap ((b : Int) + (i : Int)) = ((b + i : Nat) : Int) := w64i (by omega) (by omega)
      obtain ⟨p, hp⟩ : ∃ p, a + i = p := ⟨_, rfl⟩
      obtain ⟨q, hq⟩ : ∃ q, b + i = q := ⟨_, rfl⟩
      rw [hp] at eA hx
      rw [hq] at eB hy
      have hs : (cur.set p y).set q x = swR l a b (i + 1) := by rw [swR, hp, hq, hc]; unfold sw; rw [hx, hy]
      have HS := Lib.hid (HR.out.swap hx hy).drew
      rw [hs] at HS
      obtain ⟨D2, hy2⟩ := HR.out.next y (by omega) hy (show p ≠ q by omega)
      obtain ⟨x0, x1, x2, x3, x4, x5, x6, x7, x8, x9⟩ := HR.out.at5 hx
      obtain ⟨y0, y1, y2, y3, y4, y5, y6, y7, y8, y9⟩ := HR.out.at5 hy
      obtain ⟨z0, z1, z2, z3, z4, z5, z6, z7, z8, z9⟩ := D2.at5 hy2
      clear HR hc hx hy D2 hy2 hs
      have p1 : (p : Int) < (N : Int) := by omega
      have q1 : (q : Int) < (N : Int) := by omega
      have hltz : (i : Int) < (n : Int) := by omega
      have p0 : (0 : Int) ≤ (p : Int) := by omega
      have q0 : (0 : Int) ≤ (q : Int) := by omega
      go_wp2_with fail
      go_big_region
      all_goals go_wp2
      go_roundg (n - (i + 1))
      case measure => omega
      case rel => exact ⟨i + 1, by first | rfl | go_num, by omega, Nat.le_refl _, HS⟩
    · go_wp2_with fail
      go_end0
      obtain rfl : i = n := by omega
      exact ⟨rfl, HR.out⟩
end Go.Proofs.Ytehdkopjgcoclaa.Rrs
namespace Go.Proofs.Ytehdkopjgcoclaa.Rrs
open Go.RowKit Go.Proofs.YtehdkopjgcoclaaW.PrintWords Go.Proofs.YtehdkopjgcoclaaW.PrintLast Go.Proofs.YtehdkopjgcoclaaW.PrintMore Go.Proofs.Ytehdkopjgcoclaa.Given Go.Proofs.Ytehdkopjgcoclaa.PRd Go.Proofs.Ytehdkopjgcoclaa.PRr Go.Proofs.Ytehdkopjgcoclaa.SetLaw
set_option linter.unusedVariables false
set_option linter.unusedSimpArgs false
set_option maxHeartbeats 8000000 in
set_option maxRecDepth 100000 in
theorem rot_walk {w0 : World} {base g c : Nat} {rest : List Value} (p u v s : List RR) (hu : 0 < u.length) (hv : 0 < v.length) (hn : (p ++ (u ++ (v ++ s))).length ≤ 1000000) {N a m b : Nat} (hN : (p ++ (u ++ (v ++ s))).length = N) (ha : p.length = a) (hm : p.length + u.length = m) (hb : m + v.length = b) (w : World) (HO : Own w0 base g c rest w (p ++ (u ++ (v ++ s)))) :
    Calls Try.prog 92 #[.slice (some ⟨g, 0, none⟩) N c, .int .i64 (a : Int), .int .i64 (m : Int), .int .i64 (b : Int), cmpV] w fun e w' => e = .returned (.tuple #[]) ∧ Own w0 base g c rest w' (p ++ (v ++ (u ++ s))) := by
  have hl : (p ++ (u ++ (v ++ s))).length = p.length + u.length + v.length + s.length := by simp; omega
  have HR := Lib.hid HO
  have HF := Lib.hid (fun l' => rot_lists (p := p) (u := u) (v := v) (s := s) (l' := l'))
  rw [hm] at HF
  obtain ⟨l, hL⟩ : ∃ l, p ++ (u ++ (v ++ s)) = l := ⟨_, rfl⟩
  rw [hN] at hl hn
  rw [hL] at HR HF hN
  have e1 : IntKind.i64.wrap ((m : Int) - (a : Int)) = (u.length : Int) := w64i (by omega) (by omega)
  have e2 : IntKind.i64.wrap ((b : Int) - (m : Int)) = (v.length : Int) := w64i (by omega) (by omega)
  obtain ⟨A, hA⟩ : ∃ A, u.length = A := ⟨_, rfl⟩
  obtain ⟨B, hB⟩ : ∃ B, v.length = B := ⟨_, rfl⟩
  rw [hA] at e1 HF hu hm
  rw [hB] at e2 HF hv hb
  have hmb : A ≤ m ∧ m + B ≤ N ∧ N ≤ 1000000 := by omega
  have HL := Lib.hid hN
  clear HO hL ha hA hB hN hl
  go_enter Try.func92, Try.ntmps92
  go_wp2_with fail
  go_loopg [10, 11] (A + B) (fun kx si sj wr => ∃ (i j : Nat) (cur : List RR), si = .int .i64 (i : Int) ∧ sj = .int .i64 (j : Int) ∧ 0 < i ∧ 0 < j ∧ i ≤ m ∧ m + j ≤ N ∧ i + j ≤ kx ∧ Hid (cur.length = N) ∧ Hid (∀ l', Rot cur l' m i j → Rot l l' m A B) ∧ Hid (Own w0 base g c rest wr cur))
  case atStart => exact ⟨A, B, l, rfl, rfl, hu, hv, hmb.1, hmb.2.1, Nat.le_refl _, HL, Lib.hid (fun l' h => h), HR⟩
  case round =>
    clear HR HL
    obtain ⟨i, j, cur, rfl, rfl, hi, hj, him, hjn, hk, HL, HT, HR⟩ := hrel
    have e3 : IntKind.i64.wrap ((m : Int) - (i : Int)) = ((m - i : Nat) : Int) := w64i (by omega) (by omega)
    have hln : cur.length ≤ 1000000 := by rw [HL.out]; omega
    have hs := fun x y z w h1 h2 h => swr_walk (w0 := w0) (base := base) (g := g) (c := c) (rest := rest) cur hln x y z h1 h2 w h
    rw [HL.out] at hs
    have HS := Lib.hid hs
    clear hs hln
    by_cases h0 : i = j
    · subst h0
      go_wp2_with fail
      refine (HS.out (m - i) m i wr (by omega) (by omega) HR.out).mono ?_
      rintro e w' ⟨rfl, hw⟩
      rw [HF.out _ (HT.out _ (rot_same cur m i him (by rw [HL.out]; exact hjn)))] at hw
      have HW := Lib.hid hw
      clear hw
      go_wp2_with fail
      go_end0
      exact ⟨rfl, HW.out⟩
    · have h0z : ¬ ((i : Int) = (j : Int)) := by omega
      by_cases h1 : j < i
      · have h1z : (j : Int) < (i : Int) := by omega
        have e4 : IntKind.i64.wrap ((i : Int) - (j : Int)) = ((i - j : Nat) : Int) := w64i (by omega) (by omega)
        go_wp2_with fail
        refine (HS.out (m - i) m j wr (by omega) (by omega) HR.out).mono ?_
        rintro e w' ⟨rfl, hw⟩
        have HW := Lib.hid hw
        clear hw
        go_wp2_with fail
        go_roundg (i - j + j)
        case measure => omega
        case rel => exact ⟨i - j, j, _, rfl, rfl, by omega, hj, by omega, hjn, Nat.le_refl _, Lib.hid ((swR_length _ _ _ _).trans HL.out), Lib.hid (fun l' h => HT.out _ (rot_left h1 him (by rw [HL.out]; exact hjn) h)), HW⟩
      · have h1z : ¬ (j : Int) < (i : Int) := by omega
        have e4 : IntKind.i64.wrap ((j : Int) - (i : Int)) = ((j - i : Nat) : Int) := w64i (by omega) (by omega)
        have e5 : IntKind.i64.wrap ((m : Int) + (j : Int)) = ((m + j : Nat) : Int) := w64i (by omega) (by omega)
        have e6 : IntKind.i64.wrap (((m + j : Nat) : Int) - (i : Int)) = ((m + j - i : Nat) : Int) := w64i (by omega) (by omega)
        obtain ⟨q, hq⟩ : ∃ q, m + j = q := ⟨_, rfl⟩
        rw [hq] at e5 e6
        go_wp2_with fail
        refine (HS.out (m - i) (q - i) i wr (by omega) (by omega) HR.out).mono ?_
        rintro e w' ⟨rfl, hw⟩
        have HW := Lib.hid hw
        clear hw
        go_wp2_with fail
        go_roundg (i + (j - i))
        case measure => omega
        case rel => exact ⟨i, j - i, _, rfl, rfl, hi, by omega, him, by omega, Nat.le_refl _, Lib.hid ((swR_length _ _ _ _).trans HL.out), Lib.hid (fun l' h => HT.out _ (rot_right (by omega) him (by rw [HL.out]; exact hjn) (by rw [hq]; exact h))), HW⟩
end Go.Proofs.Ytehdkopjgcoclaa.Rrs
