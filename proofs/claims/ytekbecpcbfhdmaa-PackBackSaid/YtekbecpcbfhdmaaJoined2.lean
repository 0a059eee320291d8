/- Joined out of this session's own texts: contracts and facts that the claim's row is drawn from, each with its own conditions. -/
import Derived.Test.YtekbecpcbfhdmaaJoined1
import Derived.Maps.AppendAt
import Derived.Test.YtekbecpcbfhdmaaWWords
import Derived.Deep.Slices
import Derived.Deep.Fields
import Derived.ProofKit
import Derived.Test.YtekbecpcbfhdmaaJoined0
import Derived.SliceStrings
/- The walk of the law PackBack. -/
namespace Go.Proofs.Ytekbecpcbfhdmaa.Pack
open Go.RowKit Go.Proofs.YtekbecpcbfhdmaaW.PrintWords Go.Proofs.Ytekbecpcbfhdmaa.Oct Go.Proofs.Ytekbecpcbfhdmaa.Name Go.Proofs.Ytekbecpcbfhdmaa.PPak Go.Proofs.Ytekbecpcbfhdmaa.PackFacts Go.Proofs.Ytekbecpcbfhdmaa.Given
set_option linter.unusedVariables false
set_option linter.unusedSimpArgs false
def ints (ns : List Nat) : List Value := ns.map fun (n : Nat) => Value.int .i64 (n : Int)
/-- A packer, and beside it a row of numbers. -/
structure Rowed (w0 : World) (p mb : Nat) (S : St) (ns : List Nat) (v : Value) (w : World) : Prop where
  pk : ∃ g, Pk w0.heap.size p mb g S.1 S.2 w ∧ ∀ k, Own p mb g k → v.ownBlock ≠ some k
  row : w.ownsRow w0.heap.size 3 1 v ns.length (ints ns)
  below : Below w0.heap.size w0 w
theorem Rowed.one {w0 : World} {p mb : Nat} {S : St} {ns : List Nat} {v : Value} {w : World} (h : Rowed w0 p mb S ns v w) : One w0 p mb S w := by
  obtain ⟨g, hp, _⟩ := h.pk
  exact ⟨⟨g, hp⟩, h.below⟩
theorem Rowed.lo {w0 : World} {p mb : Nat} {S : St} {ns : List Nat} {v : Value} {w : World} (h : Rowed w0 p mb S ns v w) : w0.heap.size ≤ w.heap.size := h.below.size
theorem int_touch {lo : Nat} {v : Value} {n : Nat} {xs : List Value} {w w' : World} {S : Nat → Prop} (h : w.ownsRow lo 3 1 v n xs) (ht : Touch S w w') (hg : ∀ k, v.ownBlock = some k → ¬ S k) : w'.ownsRow lo 3 1 v n xs := by
  refine ⟨h.1, ?_⟩
  rcases h.2 with h0 | ⟨g, cap, cur, hv, hl, hh, r⟩
  · exact .inl h0
  · have hlt : g < w.heap.size := (Array.getElem?_eq_some_iff.1 hh).1
    exact .inr ⟨g, cap, cur, hv, hl, (ht.block g hlt (hg g (by rw [hv]; rfl))).trans hh, r⟩
theorem row_lt {lo : Nat} {v : Value} {n : Nat} {xs : List Value} {w : World} (h : w.ownsRow lo 3 1 v n xs) {k : Nat} (hk : v.ownBlock = some k) : k < w.heap.size ∧ lo ≤ k := by
  rcases h.2 with ⟨rfl, _⟩ | ⟨g, cap, cur, rfl, hl, hh, r⟩
  · cases hk
  · simp only [Value.ownBlock, Option.some.injEq] at hk
    subst hk
    exact ⟨(Array.getElem?_eq_some_iff.1 hh).1, hl⟩
theorem Rowed.rest {w0 : World} {p mb : Nat} {S : St} {ns : List Nat} {v : Value} {w w' : World} (h : Rowed w0 p mb S ns v w) (hb : Below w.heap.size w w') : Rowed w0 p mb S ns v w' := by
  obtain ⟨g, hp, hn⟩ := h.pk
  exact ⟨⟨g, hp.below hb, hn⟩, int_touch h.row (Touch.of_below hb) (fun _ _ h => h), below_then h.below h.lo hb⟩
theorem Rowed.step {w0 : World} {p mb : Nat} {S S' : St} {ns : List Nat} {v : Value} {w w' : World} {g : Option Nat} (h : Rowed w0 p mb S ns v w) (hp : Pk w0.heap.size p mb g S.1 S.2 w) (hn : ∀ k, Own p mb g k → v.ownBlock ≠ some k)
    (hs : Stepped w0.heap.size p mb g S'.1 S'.2 w w') : Rowed w0 p mb S' ns v w' := by
  obtain ⟨⟨g2, hp', hg2⟩, ht⟩ := hs
  refine ⟨⟨g2, hp', fun k hk e => ?_⟩, int_touch h.row ht fun k hk ho => hn k ho hk, h.below.trans (ht.below h.lo fun k hk => hp.own_lo k hk)⟩
  have hlt := (row_lt h.row e).1
  rcases hk with e' | e' | e'
  · exact hn k (.inl e') e
  · exact hn k (.inr (.inl e')) e
  · rcases hg2 k e' with e2 | e2
    · exact hn k (.inr (.inr e2)) e
    · omega
theorem Rowed.Raw {w0 : World} {p mb : Nat} {S : St} {ns : List Nat} {v : Value} {w : World} (h : Rowed w0 p mb S ns v w) (s : ByteArray) (hl : S.1.length + s.size ≤ 1000000) :
    Calls Try.prog 11 #[.pointer (some ⟨p, 0, none⟩), .string s] w fun e w' => e = .returned (.tuple #[]) ∧ Rowed w0 p mb (S.1 ++ s.data.toList, S.2) ns v w' := by
  obtain ⟨g, h1, h3⟩ := h.pk
  exact (Pack.Raw w0.heap.size p mb g S.2 S.1 s w h1 hl h.lo).mono fun e w' ⟨he, hs⟩ => ⟨he, h.step (S' := (S.1 ++ s.data.toList, S.2)) h1 h3 hs⟩
theorem Rowed.Name {w0 : World} {p mb : Nat} {S : St} {ns : List Nat} {v : Value} {w : World} (h : Rowed w0 p mb S ns v w) (n : ByteArray) (may : Bool) (b : Nat) (hf : Fit S b) (hb : b ≤ 900000) :
    Calls Try.prog 12 #[.pointer (some ⟨p, 0, none⟩), .string n, .bool may] w fun e w' => e = .returned (.int .i64 (codeOf n)) ∧ Rowed w0 p mb (nameStep n may S) ns v w' := by
  obtain ⟨g, h1, h3⟩ := h.pk
  unfold codeOf nameStep
  by_cases hr : rightB n = true
  · have hz := right_size hr
    rw [if_pos hr, if_pos hr]
    exact (Pack.Name w0.heap.size p mb g S.2 S.1 n may w h1 hr hf.small (by have := hf.bytes; omega) (by have := hf.known; omega) h.lo).mono fun e w' ⟨he, hs⟩ => ⟨he, h.step (S' := putName n may S) h1 h3 hs⟩
  · rw [if_neg hr, if_neg hr]
    exact (Name_no p n may w (by simpa using hr)).mono fun e w' ⟨he, hs⟩ => ⟨he, h.rest hs⟩
/-- A number appended, out of a block that is made for it. -/
theorem Rowed.app {w0 : World} {p mb : Nat} {S : St} {ns : List Nat} {v v' : Value} {w w' : World} {o : Obj} {x : Nat} (h : Rowed w0 p mb S ns v w) (hr : w'.ownsRow w0.heap.size 3 1 v' (ns.length + 1) (ints ns ++ [.int .i64 (x : Int)])) (hg : (w.alloc o).grownBy w' v.ownBlock)
    (hl : v'.ownBlock = v.ownBlock ∨ v'.ownBlock = some (w.alloc o).heap.size) : Rowed w0 p mb S (ns ++ [x]) v' w' := by
  have h1 := h.rest (Below.alloc (Below.refl w.heap.size w) (Nat.le_refl _) o)
  obtain ⟨g, hp, hn⟩ := h1.pk
  have ht : Touch (fun k => v.ownBlock = some k) (w.alloc o) w' := Touch.of_grown hg (fun k hk => hk)
  refine ⟨⟨g, hp.kept ht fun k hk e => hn k hk e, fun k hk e => ?_⟩, by rw [List.length_append]; unfold ints at hr ⊢; rw [List.map_append]; exact hr, h1.below.trans (ht.below h1.lo fun k hk => (row_lt h1.row hk).2)⟩
  rcases hl with e' | e'
  · exact hn k hk (e' ▸ e)
  · rw [e'] at e; injection e with e
    have := hp.own_lt k hk; omega
theorem Rowed.at {w0 : World} {p mb : Nat} {S : St} {ns : List Nat} {v : Value} {w : World} (h : Rowed w0 p mb S ns v w) (h0 : 0 < ns.length) : ∃ g cap, v = .slice (some ⟨g, 0, none⟩) ns.length cap ∧ ∀ W, Below w.heap.size w W → ∀ (i : Nat) (hi : i < ns.length), W.cell? ⟨g, i, none⟩ = some (.int .i64 (ns[i] : Int)) := by
  rcases h.row.2 with ⟨_, e⟩ | ⟨g, cap, cur, rfl, hl, hh, r⟩
  · omega
  · refine ⟨g, cap, rfl, fun W hW i hi => ?_⟩
    have hc := (int_touch h.row (Touch.of_below hW) (fun _ _ h => h)).cells (g := g) rfl i (.int .i64 (ns[i] : Int)) (by unfold ints; rw [List.getElem?_map, List.getElem?_eq_getElem hi]; rfl)
    have : (⟨g, 0, none⟩ : Addr).add i = ⟨g, i, none⟩ := by simp [Addr.add]; omega
    rw [this] at hc; exact hc
def pos (l : List It) (j : Nat) : Nat := (runI (l.take j) ([], [])).1.length
def poss (l : List It) (i : Nat) : List Nat := (List.range i).map (pos l)
theorem poss_len (l : List It) (i : Nat) : (poss l i).length = i := by unfold poss; simp
theorem poss_succ (l : List It) (i : Nat) : poss l (i + 1) = poss l i ++ [pos l i] := by unfold poss; rw [List.range_succ]; simp
theorem poss_get (l : List It) (i j : Nat) (h : j < (poss l i).length) : (poss l i)[j] = pos l j := by
  have h' : j < i := by rw [poss_len] at h; exact h
  have e : (poss l i)[j]? = some (pos l j) := by unfold poss; rw [List.getElem?_map, List.getElem?_range h']; rfl
  rw [List.getElem?_eq_getElem h] at e; exact Option.some.inj e
theorem infoInt : (Try.prog.info? 3).map (fun i => (i.zero, i.size, i.bytes)) = some (some (.int .i64 0), 1, 8) := by kernel_rfl
theorem infoInt' : ∃ i, Try.prog.info? 3 = some i ∧ i.zero = some (.int .i64 0) ∧ i.size = 1 ∧ i.bytes = 8 := by
  have h := infoInt
  cases hi : Try.prog.info? 3 with
  | none => rw [hi] at h; simp at h
  | some i =>
    rw [hi] at h
    simp only [Option.map_some, Option.some.injEq, Prod.mk.injEq] at h
    exact ⟨i, rfl, h.1, h.2.1, h.2.2⟩
set_option maxHeartbeats 8000000 in
set_option maxRecDepth 100000 in
theorem back_walk (A0 : Option Addr) (c0 : Nat) (l : List It) (w : World) (hr : Kd.C k31 w A0 l.length l) (hc : l.length ≤ c0) (hl : l.length ≤ 9223372036854775807) :
    Calls Try.prog 6 #[.slice A0 l.length c0] w fun e w' => e = .returned (.bool true) ∧ Below w.heap.size w w' := by
  have HR := Lib.hid hr
  clear hr
  have early : ∀ W, Below w.heap.size w W → Calls Try.prog 8 #[] W fun e w' => e = .returned (.bool true) ∧ Below w.heap.size w w' := fun W hW => (awake_any W).mono fun e w' ⟨he, hb⟩ => ⟨he, below_then hW hW.size hb⟩
  have EARLY := Lib.hid early
  clear early
  obtain ⟨i0, hi0, hz0, hz1, hz2⟩ := infoInt'
  have HI := Lib.hid (And.intro hi0 (And.intro hz0 (And.intro hz1 hz2)))
  clear hi0 hz0 hz1 hz2
  go_enter Try.func6, Try.ntmps6
  go_wp2_with fail
  refine (EARLY.out _ (Below.refl _ _)).mono ?_
  rintro e w1 ⟨rfl, b1⟩
  have B1 := Lib.hid b1
  clear b1
  go_wp2_with fail
  refine (few_calls A0 c0 l _ (Kd.C_below HR.out B1.out) hc hl).mono ?_
  rintro e w2 ⟨rfl, b2⟩
  have B2 := Lib.hid (below_then B1.out B1.out.size b2)
  clear b2
  cases hf : fewB l with
  | false =>
    clear hf
    go_wp2_with fail
    refine (EARLY.out _ B2.out).mono ?_
    rintro e w3 ⟨rfl, b3⟩
    go_wp2_with fail
    go_ret
    exact ⟨rfl, b3⟩
  | true =>
    have HF := Lib.hid hf
    have h40 : l.length ≤ 40 := of_decide_eq_true (Bool.and_eq_true_iff.mp hf).2
    have HX := Lib.hid (show ∀ x ∈ l, x.f1.size ≤ 17000 from fun x hx => of_decide_eq_true (List.all_eq_true.mp (Bool.and_eq_true_iff.mp hf).1 x hx))
    clear hf
    go_wp2_with fail
    refine (New w.heap.size w2 B2.out.size).mono ?_
    rintro e w4 ⟨p, mb, rfl, hpk, hp, hm, b4⟩
    have O4 := Lib.hid (show Rowed w p mb ([], []) [] (.slice none 0 0) w4 from ⟨⟨none, hpk, fun k _ e => by cases e⟩, ⟨rfl, .inl ⟨rfl, rfl⟩⟩, below_then B2.out B2.out.size b4⟩)
    clear hpk hp hm b4
    go_wp2_with fail
    go_loopw [4, 5] (fun v4 v5 wr => ∃ (i : Nat) (v : Value), i ≤ l.length ∧ v5 = .int .i64 i ∧ v4 = v ∧ Hid (Rowed w p mb (runI (l.take i) ([], [])) (poss l i) v wr)) (fun _ v _ => l.length - (intOf v).toNat)
    case atStart => exact ⟨0, _, Nat.zero_le _, rfl, rfl, O4⟩
    case round =>
      clear O4 B2 B1
      obtain ⟨i, v, hi, rfl, rfl, HT⟩ := hrel
      have hfit : Fit (runI (l.take i) ([], [])) (17000 * i) := by
        have := run_fit (l.take i) ([], []) 0 (fun x hx => HX.out x (List.mem_of_mem_take hx)) (fit_nil 0)
        rw [List.length_take, Nat.min_eq_left hi, Nat.zero_add] at this; exact this
      have HPS := Lib.hid (poss_succ l i)
      have hpos : pos l i = (runI (l.take i) ([], [])).1.length := rfl
      have HLN := Lib.hid (poss_len l i)
      obtain ⟨i0, HI'⟩ : ∃ i0, Hid (Try.prog.info? 3 = some i0 ∧ i0.zero = some (.int .i64 0) ∧ i0.size = 1 ∧ i0.bytes = 8) := ⟨i0, HI⟩
      by_cases hlt : i < l.length
      · have t2 : decide ((i : Int) < (l.length : Int)) = true := decide_eq_true (by omega)
        have hsn : runI (l.take (i + 1)) ([], []) = itemStep l[i] (runI (l.take i) ([], [])) := by rw [List.take_succ_eq_append_getElem hlt, runI_snoc]
        have hx17 : l[i].f1.size ≤ 17000 := HX.out _ (List.getElem_mem hlt)
        obtain ⟨ad, rfl, hcell⟩ := cells_item HR.out i hlt
        obtain ⟨x, hx⟩ : ∃ x, l[i] = x := ⟨_, rfl⟩
        rw [hx] at hsn hx17 hcell
        obtain ⟨S, hS⟩ : ∃ S, runI (l.take i) ([], []) = S := ⟨_, rfl⟩
        rw [hS] at hfit HT hsn hpos
        have HSN := Lib.hid hsn
        have HFIT := Lib.hid hfit
        have HPOS := Lib.hid hpos
        clear hsn hfit hS hx hpos
        obtain ⟨raw, s, may⟩ := x
        simp only at hcell hx17
        have HC := Lib.hid hcell
        clear hcell
        have hlen : S.1.length + s.size ≤ 1000000 := by have := HFIT.out.bytes; omega
        have hq40 : (poss l i).length ≤ 40 := by rw [HLN.out]; omega
        cases raw with
        | true =>
          go_wp2_with fail
          refine (HT.out.one.Len).mono ?_
          rintro e w6 ⟨rfl, rfl⟩
          go_wp2_with (at_builtin; refine wpList_append_own_at _ rfl _ _ 43 rfl w.heap.size 3 i0 (.int .i64 0) 1 8 Try.underlying43 HI'.out.1 HI'.out.2.1 HI'.out.2.2.1 HI'.out.2.2.2 rfl (by decide) _ _ _ rfl (HT.out.row.alloc _) ⟨wr.heap.size, 0, none⟩ 1 1 [.int .i64 (S.1.length : Int)] rfl rfl (cell_one_new _ _ _) (by simp [Value.oneCell']) (by unfold maxLen; omega) (by omega) (by have := HT.out.lo; simp; omega) ?_; intro v' w7 hown' hgrow hnil hloc; have H7 := Lib.hid (HT.out.app hown' hgrow hloc); obtain ⟨hc0, hc1, hc2⟩ := HC.out _ H7.out.below; clear hown' hgrow hnil hloc HT)
          refine (H7.out.Raw s hlen).mono ?_
          rintro e w8 ⟨rfl, h8⟩
          have H8 := Lib.hid h8
          clear h8 hc0 hc1 hc2
          go_wp2_with fail
          refine ⟨⟨i + 1, v', by omega, by simp, rfl, Lib.hid ?_⟩, by simp [intOf]; omega⟩
          rw [HSN.out, HPS.out, HPOS.out]; exact H8.out
        | false =>
          go_wp2_with fail
          refine (HT.out.one.Len).mono ?_
          rintro e w6 ⟨rfl, rfl⟩
          go_wp2_with (at_builtin; refine wpList_append_own_at _ rfl _ _ 43 rfl w.heap.size 3 i0 (.int .i64 0) 1 8 Try.underlying43 HI'.out.1 HI'.out.2.1 HI'.out.2.2.1 HI'.out.2.2.2 rfl (by decide) _ _ _ rfl (HT.out.row.alloc _) ⟨wr.heap.size, 0, none⟩ 1 1 [.int .i64 (S.1.length : Int)] rfl rfl (cell_one_new _ _ _) (by simp [Value.oneCell']) (by unfold maxLen; omega) (by omega) (by have := HT.out.lo; simp; omega) ?_; intro v' w7 hown' hgrow hnil hloc; have H7 := Lib.hid (HT.out.app hown' hgrow hloc); obtain ⟨hc0, hc1, hc2⟩ := HC.out _ H7.out.below; clear hown' hgrow hnil hloc HT)
          go_still_tail 11, (by kernel_rfl)
          change wpList _ _ _ _ _ w7.drew
          have hd : Below w7.heap.size w7 w7.drew := (Below.refl _ w7).drew
          have HD := Lib.hid (H7.out.rest hd)
          clear hd hc0 hc1 hc2 H7
          generalize w7.drew = wd at HD
          go_wp2_with fail
          refine (HD.out.Name s may _ HFIT.out (by omega)).mono ?_
          rintro e w8 ⟨rfl, h8⟩
          have H8 := Lib.hid h8
          clear h8 HD
          go_wp2_with fail
          refine ⟨⟨i + 1, v', by omega, by simp, rfl, Lib.hid ?_⟩, by simp [intOf]; omega⟩
          rw [HSN.out, HPS.out, HPOS.out]; exact H8.out
      · obtain rfl : i = l.length := by omega
        have t2 : decide ((l.length : Int) < (l.length : Int)) = false := decide_eq_false (by omega)
        have hq40 : (poss l l.length).length ≤ 40 := by rw [HLN.out]; omega
        rw [List.take_of_length_le (Nat.le_refl _)] at HT hfit
        have hpe : pos l l.length = (runI l ([], [])).1.length := by unfold pos; rw [List.take_of_length_le (Nat.le_refl _)]
        have HPE := Lib.hid hpe
        have hbig := hfit.bytes
        have HB := Lib.hid hbig
        clear hpe hfit hpos hlt hi hbig
        go_wp2_with fail
        refine (HT.out.one.Len).mono ?_
        rintro e w6 ⟨rfl, rfl⟩
        go_wp2_with (at_builtin; refine wpList_append_own_at _ rfl _ _ 43 rfl w.heap.size 3 i0 (.int .i64 0) 1 8 Try.underlying43 HI'.out.1 HI'.out.2.1 HI'.out.2.2.1 HI'.out.2.2.2 rfl (by decide) _ _ _ rfl (HT.out.row.alloc _) ⟨wr.heap.size, 0, none⟩ 1 1 [.int .i64 ((runI l ([], [])).1.length : Int)] rfl rfl (cell_one_new _ _ _) (by simp [Value.oneCell']) (by unfold maxLen; omega) (by omega) (by have := HT.out.lo; simp; omega) ?_; intro v' w7 hown' hgrow hnil hloc; have H7 := Lib.hid (HT.out.app hown' hgrow hloc); clear hown' hgrow hnil hloc HT)
        refine (H7.out.one.Bytes (by have := HB.out; omega)).mono ?_
        rintro e w8 ⟨rfl, rfl⟩
        have h7 := H7.out
        have hps : poss l l.length ++ [(runI l ([], [])).1.length] = poss l (l.length + 1) := by rw [poss_succ, HPE.out]
        rw [hps] at h7
        obtain ⟨B, hB⟩ : ∃ B, Oct.arr (runI l ([], [])).1 = B := ⟨_, rfl⟩
        rw [hB]
        have HBB := Lib.hid hB
        obtain ⟨g, cap, rfl, hat⟩ := h7.at (by rw [poss_len]; omega)
        have HAT := Lib.hid hat
        have HL1 := Lib.hid (poss_len l (l.length + 1))
        have B7 := Lib.hid h7.below
        clear hat h7 hps hB H7 HI' HPS HLN HPE
        rw [HL1.out]
        go_wp2_with fail
        go_loopw [7] (fun v7 wr => ∃ i : Nat, i ≤ l.length ∧ v7 = .int .i64 i ∧ Hid (Below w7.heap.size w7 wr)) (fun v _ => l.length - (intOf v).toNat)
        case atStart => exact ⟨0, Nat.zero_le _, rfl, Lib.hid (Below.refl _ _)⟩
        case round =>
          obtain ⟨i, hi, rfl, HW⟩ := hrel
          have HW0 := Lib.hid (below_then B7.out B7.out.size HW.out)
          by_cases hlt : i < l.length
          · have t2 : decide ((i : Int) < (l.length : Int)) = true := decide_eq_true (by omega)
            obtain ⟨ad, rfl, hcell⟩ := cells_item HR.out i hlt
            have hback := fun h0 hr => back_read l HX.out i hlt h0 hr
            have ha1 := fun W hW => HAT.out W hW i (by rw [HL1.out]; omega)
            have ha2 := fun W hW => HAT.out W hW (i + 1) (by rw [HL1.out]; omega)
            simp only [poss_get] at ha1 ha2
            have hp1 : (runI (l.take i) ([], [])).1.length = pos l i := rfl
            have hp2 : (runI (l.take (i + 1)) ([], [])).1.length = pos l (i + 1) := rfl
            rw [HBB.out, hp1, hp2] at hback
            clear hp1 hp2
            obtain ⟨q1, hq1⟩ : ∃ q, pos l i = q := ⟨_, rfl⟩
            obtain ⟨q2, hq2⟩ : ∃ q, pos l (i + 1) = q := ⟨_, rfl⟩
            rw [hq1] at ha1 hback
            rw [hq2] at ha2 hback
            clear hq1 hq2
            obtain ⟨x, hx⟩ : ∃ x, l[i] = x := ⟨_, rfl⟩
            rw [hx] at hcell hback
            clear hx
            obtain ⟨raw, s, may⟩ := x
            simp only at hcell hback
            have HC := Lib.hid hcell
            have HA1 := Lib.hid ha1
            have HA2 := Lib.hid ha2
            have HBK := Lib.hid hback
            clear hcell ha1 ha2 hback
            obtain ⟨hc0, hc1, hc2⟩ := HC.out _ HW0.out
            cases raw with
            | true =>
              go_wp2_with fail
              exact ⟨⟨i + 1, by omega, by simp, HW⟩, by simp [intOf]; omega⟩
            | false =>
              go_wp2_with fail
              refine (right_calls s _).mono ?_
              rintro e w9 ⟨rfl, b9⟩
              have HW9 := Lib.hid (below_then HW.out HW.out.size b9)
              have HWW9 := Lib.hid (below_then HW0.out HW0.out.size b9)
              clear b9 hc0 hc1 hc2
              cases hrs : rightB s with
              | false =>
                clear hrs
                go_wp2_with fail
                exact ⟨⟨i + 1, by omega, by simp, HW9⟩, by simp [intOf]; omega⟩
              | true =>
                obtain ⟨hle, hrd⟩ := HBK.out trivial hrs
                have hbs : B.size ≤ 1000000 := by rw [← HBB.out, arr_size]; have := HB.out; omega
                have hcl := fun W => pack_Read.calls (fuel B) B (q1 : Int) s (q2 : Int) 0 W ((pread_f B hbs q1 (fuel B) hle (Nat.le_refl _)).trans (congrArg some hrd))
                have HCL := Lib.hid hcl
                clear hcl hrd hrs hle
                have hca := HA1.out _ HW9.out
                go_wp2_with fail
                refine (HCL.out _).mono ?_
                rintro e w10 ⟨rfl, b10⟩
                have HW10 := Lib.hid (below_then HW9.out HW9.out.size b10)
                have HWW10 := Lib.hid (below_then HWW9.out HWW9.out.size b10)
                clear b10 hca HW9 HWW9
                obtain ⟨hc0, hc1, hc2⟩ := HC.out _ HWW10.out
                have hcb := HA2.out _ HW10.out
                go_wp2_with fail
                exact ⟨⟨i + 1, by omega, by simp, HW10⟩, by simp [intOf]; omega⟩
          · obtain rfl : i = l.length := by omega
            have t2 : decide ((l.length : Int) < (l.length : Int)) = false := decide_eq_false (by omega)
            go_wp2_with fail
            go_ret
            exact ⟨rfl, HW0.out⟩
theorem PackBack_walk (A0 : Option Addr) (c0 : Nat) (l : List It) (w : World) (hr : Kd.C k31 w A0 l.length l) (hc : l.length ≤ c0) (hm : l.length ≤ maxLen) (hs : ∀ s ∈ l, True) :
    Calls Try.prog 6 #[.slice A0 l.length c0] w fun e w' => e = .returned (.bool true) ∧ Below w.heap.size w w' := back_walk A0 c0 l w hr hc (by unfold maxLen at hm; omega)
end Go.Proofs.Ytekbecpcbfhdmaa.Pack
/- What a row needs of an argument that is a slice of structs of one-cell fields: the list that it holds, as the printed contracts read it. -/
namespace Go.Proofs.Ytekbecpcbfhdmaa.RowStructs
open Go.RowKit Go.ChangeShapes Go.WideShapes Go.Deep Go.Proofs.YtekbecpcbfhdmaaW.PrintWords
set_option linter.unusedVariables false
section
variable {H : Type} {enc : TypeId × Value → H} {P : Program} {W : World} {base : Nat} {spare : Nat → Bool} {held : Bool}
/-- A struct's fields, cell by cell. -/
theorem fields_of {e : TypeId} {fs : Array Field} {fuel : Nat} {cs : List Value} {x : DataW H × List MemPlace} (he : P.underlying e = some (.struct fs)) (hone : oneCellFields P fs = true) (hC : P.cellsOf e = fs.size)
    (h : DataW.trod enc P W base spare held fuel e cs = some x) : cs.length = fs.size ∧ ∃ n, ∀ (j : Nat) (f : Field), fs[j]? = some f → ∃ v y, cs[j]? = some v ∧ DataW.trod enc P W base spare held n f.type [v] = some y := by
  obtain ⟨ys, n, _, _, hl, hyl, hf⟩ := DataW.trod_struct he h
  refine ⟨hl.trans hC, n, fun j f hj => ?_⟩
  obtain ⟨ho, hk⟩ := hone_of hone j f hj
  have hjl : j < fs.size := (Array.getElem?_eq_some_iff.1 hj).1
  have hcl : j < cs.length := by omega
  have hyj : j < ys.length := by omega
  have h1 := hf j f hj
  rw [ho, hk, List.drop_eq_getElem_cons hcl, List.take_succ_cons, List.take_zero] at h1
  exact ⟨cs[j], ys[j], List.getElem?_eq_getElem hcl, h1.trans (List.getElem?_eq_getElem hyj)⟩
theorem list_of {S : Type} (n : Nat) (R : Nat → S → Prop) (h : ∀ i, i < n → ∃ s, R i s) : ∃ l : List S, l.length = n ∧ ∀ i s, l[i]? = some s → R i s := by
  induction n with
  | zero => exact ⟨[], rfl, fun i s hs => by simp at hs⟩
  | succ n ih =>
    obtain ⟨l, hl, hr⟩ := ih fun i hi => h i (by omega)
    obtain ⟨s, hs⟩ := h n (by omega)
    refine ⟨l ++ [s], by simp [hl], fun i t ht => ?_⟩
    by_cases hi : i < n
    · rw [List.getElem?_append_left (by omega)] at ht; exact hr i t ht
    · rw [List.getElem?_append_right (by omega)] at ht
      by_cases e : i = n
      · subst e; rw [hl, Nat.sub_self] at ht; simp at ht; subst ht; exact hs
      · rw [List.getElem?_eq_none (by simp; omega)] at ht; cases ht
theorem structs_of {S : Type} (k : Kd S) (good : S → Prop) {t e : TypeId} {a : Option Addr} {len cap : Nat} {d : DataW H} {ps : List MemPlace} (hu : P.underlying t = some (.slice e)) (hC : P.cellsOf e = k.sz) (hpos : 0 < k.sz)
    (open1 : ∀ fuel cs x, DataW.trod enc P W base spare held fuel e cs = some x → ∃ s, k.K W s cs ∧ good s) (h : DataW.Trod enc P W base spare held t (.slice a len cap) d ps) :
    ∃ l : List S, len = l.length ∧ Kd.C k W a l.length l ∧ l.length ≤ cap ∧ l.length ≤ maxLen ∧ ∀ s ∈ l, good s := by
  obtain ⟨fuel, hf⟩ := h
  rcases open_slice hu hf with ⟨hcs, _⟩ | ⟨x, l, c, m, n, D, Pl, hcs, _, hl, hm, hmm, _, hi⟩
  · simp [Value.cells] at hcs
    obtain ⟨rfl, rfl, rfl⟩ := hcs
    exact ⟨[], rfl, Kd.C_nil _ _, Nat.le_refl _, Nat.zero_le _, by simp⟩
  · simp [Value.cells] at hcs
    obtain ⟨rfl, rfl, rfl⟩ := hcs
    have hlm : len ≤ m := by rw [hmm]; split <;> omega
    obtain ⟨L, hL, hR⟩ := list_of len (fun i s => good s ∧ ∃ cs', k.K W s cs' ∧ cs'.length = k.sz ∧ ∀ j u, cs'[j]? = some u → W.cell? (x.add (i * k.sz + j)) = some u) (fun i hi' => by
      obtain ⟨cs', hc, ht⟩ := hi i (by omega)
      obtain ⟨s, hs, hg⟩ := open1 _ _ _ ht
      rw [hC] at hc
      obtain ⟨_, hcl, hat⟩ := World.cells?_some hc
      refine ⟨s, hg, cs', hs, hcl, fun j u hj => ?_⟩
      have hjl : j < k.sz := by rw [← hcl]; exact (List.getElem?_eq_some_iff.1 hj).1
      have := hat j hjl
      rw [← Go.Deep.add_add]; rw [this]; exact hj)
    refine ⟨L, hL.symm, ⟨rfl, by unfold maxLen at hm; omega, fun _ => ⟨x, rfl, fun j p hp => ?_⟩⟩, by omega, by omega, fun s hs => ?_⟩
    · obtain ⟨_, c, h1, h2, h3⟩ := hR j p hp
      exact ⟨c, h2, h1, h3⟩
    · obtain ⟨i, hi', he⟩ := List.getElem_of_mem hs
      exact (hR i s (by rw [List.getElem?_eq_getElem hi', he])).1
end
end Go.Proofs.Ytekbecpcbfhdmaa.RowStructs
/- The pack laws' items as arguments. -/
namespace Go.Proofs.Ytekbecpcbfhdmaa.RowStructs
open Go.RowKit Go.ChangeShapes Go.WideShapes Go.Deep Go.Proofs.YtekbecpcbfhdmaaW.PrintWords Go.Proofs.Ytekbecpcbfhdmaa.PPak
section
variable {H : Type} {enc : TypeId × Value → H} {W : World} {base : Nat} {spare : Nat → Bool} {held : Bool}
theorem item_of {fuel : Nat} {cs : List Value} {x : DataW H × List MemPlace} (h : DataW.trod enc Try.prog W base spare held fuel 31 cs = some x) : ∃ s : S31, k31.K W s cs ∧ True := by
  obtain ⟨hl, n, hf⟩ := fields_of Try.underlying31 (by kernel_rfl) (by kernel_rfl) h
  obtain ⟨v0, y0, c0, h0⟩ := hf 0 _ rfl
  obtain ⟨v1, y1, c1, h1⟩ := hf 1 _ rfl
  obtain ⟨v2, y2, c2, h2⟩ := hf 2 _ rfl
  obtain ⟨b, e0, _⟩ := DataW.trod_bool Try.underlying4 h0
  obtain ⟨s, e1, _⟩ := DataW.trod_string Try.underlying9 h1
  obtain ⟨m, e2, _⟩ := DataW.trod_bool Try.underlying4 h2
  obtain rfl : v0 = .bool b := by simpa using e0
  obtain rfl : v1 = .string s := by simpa using e1
  obtain rfl : v2 = .bool m := by simpa using e2
  have : cs = [.bool b, .string s, .bool m] := by
    match cs, hl with
    | [x, y, z], _ => simp at c0 c1 c2; rw [c0, c1, c2]
  rw [this]
  exact ⟨⟨b, s, m⟩, k31_mk W ⟨b, s, m⟩, trivial⟩
theorem of_T31 {t : TypeId} {a : Option Addr} {len cap : Nat} {d : DataW H} {ps : List MemPlace} (hu : Try.prog.underlying t = some (.slice 31)) (h : DataW.Trod enc Try.prog W base spare held t (.slice a len cap) d ps) :
    ∃ l : List S31, len = l.length ∧ Kd.C k31 W a l.length l ∧ l.length ≤ cap ∧ l.length ≤ maxLen ∧ ∀ s ∈ l, True :=
  structs_of k31 (fun _ => True) hu (by kernel_rfl) (by decide) (fun _ _ _ h => item_of h) h
end
end Go.Proofs.Ytekbecpcbfhdmaa.RowStructs
/- What a row needs of an argument that is a slice of strings: the list that it holds, as the printed contracts read it. -/
namespace Go.Proofs.Ytekbecpcbfhdmaa.RowWords
open Go.RowKit Go.ChangeShapes Go.WideShapes Go.Proofs.YtekbecpcbfhdmaaW.PrintWords

theorem strs_of {H : Type} {enc : TypeId × Value → H} {P : Program} {W : World} {base : Nat} {spare : Nat → Bool} {held : Bool} {t e : TypeId} {a : Option Addr} {len cap : Nat} {d : DataW H} {ps : List MemPlace}
    (hu : P.underlying t = some (.slice e)) (he : P.underlying e = some .string) (hc : P.cellsOf e = 1)
    (h : DataW.Trod enc P W base spare held t (.slice a len cap) d ps) :
    ∃ l : List ByteArray, len = l.length ∧ Kd.C Kd.string W a l.length l ∧ l.length ≤ cap ∧ l.length ≤ maxLen ∧ ∀ s ∈ l, s.size ≤ maxLen := by
  obtain ⟨fuel, hf⟩ := h
  rcases open_strings hu he hc hf with ⟨hcs, _⟩ | ⟨x, l, c, ss, hcs, _, hl, hm, hz, _, hcell, hs⟩
  · simp [Value.cells] at hcs
    obtain ⟨rfl, rfl, rfl⟩ := hcs
    exact ⟨[], rfl, Kd.C_nil _ _, Nat.le_refl _, Nat.zero_le _, by simp⟩
  · simp [Value.cells] at hcs
    obtain ⟨rfl, rfl, rfl⟩ := hcs
    have hlen : len ≤ ss.length := by
      rw [hz]; split
      · exact hl
      · exact Nat.le_refl _
    have hlt : (ss.take len).length = len := by rw [List.length_take]; omega
    refine ⟨ss.take len, hlt.symm, ?_, by omega, by omega, fun s hmem => hs s (List.mem_of_mem_take hmem)⟩
    refine Kd.C_of_reads (d := ByteArray.empty) (h1 := fun _ => rfl) ⟨rfl, by unfold maxLen at hm; omega, fun _ => ⟨x, rfl, fun i hi => ?_⟩⟩
    rw [hcell i (by omega)]
    simp [List.getD_eq_getElem?_getD, show i < len from by omega]

end Go.Proofs.Ytekbecpcbfhdmaa.RowWords
