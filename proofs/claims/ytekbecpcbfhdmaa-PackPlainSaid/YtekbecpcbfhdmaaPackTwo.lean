/- Items put one behind the other: what the packer comes to, in plain words; one packer, and two beside each other. -/
import Derived.Test.YtekbecpcbfhdmaaPackAwake
import Derived.Test.YtekbecpcbfhdmaaPackFacts
namespace Go.Proofs.Ytekbecpcbfhdmaa.Pack
open Go.RowKit Go.Proofs.YtekbecpcbfhdmaaW.PrintWords Go.Proofs.Ytekbecpcbfhdmaa.Oct Go.Proofs.Ytekbecpcbfhdmaa.Name Go.Proofs.Ytekbecpcbfhdmaa.PPak Go.Proofs.Ytekbecpcbfhdmaa.PackFacts
set_option linter.unusedVariables false
abbrev It := S31
/-- What an item does. -/
def itemStep (x : It) (S : St) : St := if x.f0 = true then (S.1 ++ x.f1.data.toList, S.2) else if rightB x.f1 = true then putName x.f1 x.f2 S else S
def runI (l : List It) (S : St) : St := l.foldl (fun S x => itemStep x S) S
theorem runI_snoc (l : List It) (x : It) (S : St) : runI (l ++ [x]) S = itemStep x (runI l S) := by unfold runI; rw [List.foldl_append]; rfl
/-- Bounds, and places that pointers can tell. -/
structure Fit (S : St) (n : Nat) : Prop where
  bytes : S.1.length ≤ n
  known : S.2.length ≤ n
  small : Small S.2
theorem putN_fit (may : Bool) : ∀ (k : Nat) (n : ByteArray) (S : St) (b : Nat), rightB n = true → n.size ≤ k → S.1.length + n.size + 1 ≤ b → S.2.length + n.size ≤ b → Small S.2 → Fit (putN k n may S) (b + 1) := by
  intro k
  induction k with
  | zero => intro n S b hr hk h1 h2 h3; exact ⟨by rw [putN, List.length_append]; simp; omega, by rw [putN]; show S.2.length ≤ _; omega, by rw [putN]; exact h3⟩
  | succ k ih =>
    intro n S b hr hk h1 h2 h3
    by_cases hn : n = rootB
    · rw [putN, if_pos hn]
      exact ⟨by rw [List.length_append]; simp; omega, by show S.2.length ≤ _; omega, h3⟩
    · have hp := par_size hr hn
      have hpr := par_right hr hn
      have hh := head_size n
      rw [putN, if_neg hn]
      have hl : (S.1 ++ (head n).data.toList).length = S.1.length + (n.size - (par n).size) := by rw [List.length_append, size_list, hh]
      cases hlk : look S.2 n with
      | some q =>
        simp only
        split
        · exact ⟨by rw [List.length_append, beB_len]; omega, by show S.2.length ≤ _; omega, h3⟩
        · exact ih _ _ b hpr (by omega) (by rw [hl]; omega) (by simp only; omega) h3
      | none =>
        simp only
        refine ih _ _ b hpr (by omega) (by rw [hl]; omega) ?_ ?_
        · show (if S.1.length < 16384 then (n, S.1.length) :: S.2 else S.2).length + _ ≤ _
          split
          · rw [List.length_cons]; omega
          · omega
        · show Small (if S.1.length < 16384 then (n, S.1.length) :: S.2 else S.2)
          split
          · exact h3.put (by assumption)
          · exact h3
theorem putName_fit (n : ByteArray) (may : Bool) (S : St) (b : Nat) (hr : rightB n = true) (h : Fit S b) : Fit (putName n may S) (b + 257) := by
  have := right_size hr
  have h1 := putN_fit may n.size n S (b + 256) hr (Nat.le_refl _) (by have := h.bytes; omega) (by have := h.known; omega) h.small
  exact h1
theorem item_fit (x : It) (S : St) (b : Nat) (hx : x.f1.size ≤ 17000) (h : Fit S b) : Fit (itemStep x S) (b + 17000) := by
  unfold itemStep
  split
  · exact ⟨by rw [List.length_append, size_list]; have := h.bytes; omega, by have := h.known; show S.2.length ≤ _; omega, h.small⟩
  · split
    · have := putName_fit x.f1 x.f2 S b (by assumption) h
      exact ⟨by have := this.bytes; omega, by have := this.known; omega, this.small⟩
    · exact ⟨by have := h.bytes; omega, by have := h.known; omega, h.small⟩
theorem fit_nil (b : Nat) : Fit ([], []) b := ⟨by simp, by simp, small_nil⟩
theorem run_fit : ∀ (l : List It) (S : St) (b : Nat), (∀ x ∈ l, x.f1.size ≤ 17000) → Fit S b → Fit (runI l S) (b + 17000 * l.length) := by
  intro l
  induction l with
  | nil => intro S b _ h; exact h
  | cons x l ih =>
    intro S b hx h
    have := ih (itemStep x S) (b + 17000) (fun y hy => hx y (List.mem_cons_of_mem _ hy)) (item_fit x S b (hx x (List.mem_cons_self ..)) h)
    rw [List.length_cons, show b + 17000 * (l.length + 1) = b + 17000 + 17000 * l.length by omega]
    exact this

/-! ### how much is put -/
theorem right_pos {n : ByteArray} (h : rightB n = true) : 0 < n.size := by
  by_cases hn : n = rootB
  · rw [hn]; decide
  · have := par_size h hn; omega
theorem head_par {n : ByteArray} (h : rightB n = true) (hn : ¬ n = rootB) : (head n).data.toList ++ (par n).data.toList = n.data.toList := by
  obtain ⟨s, r, hc, _, _, _, e, _⟩ := right_step h hn
  have hr : ∃ m, m ≤ n.size ∧ r = n.extract m n.size := by
    unfold cutOf at hc
    split at hc
    · split at hc
      · simp only [Option.some.injEq, Prod.mk.injEq] at hc
        exact ⟨_, by omega, hc.2.symm⟩
      · cases hc
    · cases hc
  obtain ⟨m, hm, rfl⟩ := hr
  unfold head
  rw [e, ByteArray.size_extract, Nat.min_self, show n.size - (n.size - m) = m by omega]
  rw [drop_list]
  have : (n.extract 0 m).data.toList = n.data.toList.take m := by simp
  rw [this, List.take_append_drop]
theorem put_full : ∀ (k : Nat) (n : ByteArray) (S : St), n.size ≤ k → rightB n = true → (putName n false S).1 = S.1 ++ n.data.toList := by
  intro k
  induction k with
  | zero => intro n S hk h; have := right_pos h; omega
  | succ k ih =>
    intro n S hk h
    by_cases hn : n = rootB
    · subst hn; rw [putName_root]; rfl
    · have hp := par_size h hn
      have hpr := par_right h hn
      rw [putName_step false S h hn, ← head_par h hn, ← List.append_assoc]
      cases look S.2 n with
      | some q => simp only [Bool.false_eq_true, if_false]; rw [ih _ _ (by omega) hpr]
      | none => simp only; rw [ih _ _ (by omega) hpr]
theorem put_less : ∀ (k : Nat) (n : ByteArray) (S : St), n.size ≤ k → rightB n = true → (putName n true S).1.length ≤ S.1.length + n.size ∧ S.1.length + 1 ≤ (putName n true S).1.length := by
  intro k
  induction k with
  | zero => intro n S hk h; have := right_pos h; omega
  | succ k ih =>
    intro n S hk h
    by_cases hn : n = rootB
    · subst hn; rw [putName_root]
      refine ⟨?_, ?_⟩ <;> simp [show rootB.size = 1 from rfl]
    · have hp := par_size h hn
      have hpr := par_right h hn
      have hpp := right_pos hpr
      have hh := head_size n
      rw [putName_step true S h hn]
      cases look S.2 n with
      | some q => simp only [if_true]; rw [List.length_append, beB_len]; omega
      | none =>
        simp only
        have h1 := ih (par n) (S.1 ++ (head n).data.toList, if S.1.length < 16384 then (n, S.1.length) :: S.2 else S.2) (by omega) hpr
        simp only [List.length_append, size_list] at h1
        omega

/-! ### a packer in the world -/
structure One (w0 : World) (p mb : Nat) (S : St) (w : World) : Prop where
  pk : ∃ g, Pk w0.heap.size p mb g S.1 S.2 w
  below : Below w0.heap.size w0 w
theorem One.lo {w0 : World} {p mb : Nat} {S : St} {w : World} (h : One w0 p mb S w) : w0.heap.size ≤ w.heap.size := h.below.size
theorem One.rest {w0 : World} {p mb : Nat} {S : St} {w w' : World} (h : One w0 p mb S w) (hb : Below w.heap.size w w') : One w0 p mb S w' := by
  obtain ⟨g, hp⟩ := h.pk
  exact ⟨⟨g, hp.below hb⟩, below_then h.below h.lo hb⟩
theorem One.step {w0 : World} {p mb : Nat} {S S' : St} {w w' : World} {g : Option Nat} (h : One w0 p mb S w) (hp : Pk w0.heap.size p mb g S.1 S.2 w) (hs : Stepped w0.heap.size p mb g S'.1 S'.2 w w') : One w0 p mb S' w' := by
  obtain ⟨⟨g', hp', _⟩, ht⟩ := hs
  exact ⟨⟨g', hp'⟩, h.below.trans (ht.below h.lo fun k hk => hp.own_lo k hk)⟩
theorem One.Raw {w0 : World} {p mb : Nat} {S : St} {w : World} (h : One w0 p mb S w) (s : ByteArray) (hl : S.1.length + s.size ≤ 1000000) :
    Calls Try.prog 11 #[.pointer (some ⟨p, 0, none⟩), .string s] w fun e w' => e = .returned (.tuple #[]) ∧ One w0 p mb (S.1 ++ s.data.toList, S.2) w' := by
  obtain ⟨g, hp⟩ := h.pk
  exact (Pack.Raw w0.heap.size p mb g S.2 S.1 s w hp hl h.lo).mono fun e w' ⟨he, hs⟩ => ⟨he, h.step hp hs⟩
/-- What Name answers, and what it does. -/
def codeOf (n : ByteArray) : Int := if rightB n = true then 0 else 2
def nameStep (n : ByteArray) (may : Bool) (S : St) : St := if rightB n = true then putName n may S else S
theorem One.Name {w0 : World} {p mb : Nat} {S : St} {w : World} (h : One w0 p mb S w) (n : ByteArray) (may : Bool) (b : Nat) (hf : Fit S b) (hb : b ≤ 900000) :
    Calls Try.prog 12 #[.pointer (some ⟨p, 0, none⟩), .string n, .bool may] w fun e w' => e = .returned (.int .i64 (codeOf n)) ∧ One w0 p mb (nameStep n may S) w' := by
  obtain ⟨g, hp⟩ := h.pk
  unfold codeOf nameStep
  by_cases hr : rightB n = true
  · have hz := right_size hr
    rw [if_pos hr, if_pos hr]
    exact (Pack.Name w0.heap.size p mb g S.2 S.1 n may w hp hr hf.small (by have := hf.bytes; omega) (by have := hf.known; omega) h.lo).mono fun e w' ⟨he, hs⟩ => ⟨he, h.step hp hs⟩
  · rw [if_neg hr, if_neg hr]
    exact (Name_no p n may w (by simpa using hr)).mono fun e w' ⟨he, hs⟩ => ⟨he, h.rest hs⟩
theorem One.Len {w0 : World} {p mb : Nat} {S : St} {w : World} (h : One w0 p mb S w) :
    Calls Try.prog 15 #[.pointer (some ⟨p, 0, none⟩)] w fun e w' => e = .returned (.int .i64 (S.1.length : Int)) ∧ w = w' := by
  obtain ⟨g, hp⟩ := h.pk
  exact Pack.Len _ p mb g S.2 S.1 w hp
theorem One.Bytes {w0 : World} {p mb : Nat} {S : St} {w : World} (h : One w0 p mb S w) (hl : S.1.length ≤ 1000000) :
    Calls Try.prog 16 #[.pointer (some ⟨p, 0, none⟩)] w fun e w' => e = .returned (.string (Oct.arr S.1)) ∧ w = w' := by
  obtain ⟨g, hp⟩ := h.pk
  exact Pack.Bytes _ p mb g S.2 S.1 w hp hl
/-- Two packers. -/
structure Two (w0 : World) (p mb q mc : Nat) (S T : St) (w : World) : Prop where
  pk : ∃ g g', Pk w0.heap.size p mb g S.1 S.2 w ∧ Pk w0.heap.size q mc g' T.1 T.2 w ∧ ∀ k, Own p mb g k → ¬ Own q mc g' k
  below : Below w0.heap.size w0 w
theorem Two.flip {w0 : World} {p mb q mc : Nat} {S T : St} {w : World} (h : Two w0 p mb q mc S T w) : Two w0 q mc p mb T S w := by
  obtain ⟨g, g', h1, h2, h3⟩ := h.pk
  exact ⟨⟨g', g, h2, h1, fun k hk hk' => h3 k hk' hk⟩, h.below⟩
theorem Two.one {w0 : World} {p mb q mc : Nat} {S T : St} {w : World} (h : Two w0 p mb q mc S T w) : One w0 p mb S w := by
  obtain ⟨g, g', h1, h2, h3⟩ := h.pk
  exact ⟨⟨g, h1⟩, h.below⟩
theorem Two.lo {w0 : World} {p mb q mc : Nat} {S T : St} {w : World} (h : Two w0 p mb q mc S T w) : w0.heap.size ≤ w.heap.size := h.below.size
theorem Two.rest {w0 : World} {p mb q mc : Nat} {S T : St} {w w' : World} (h : Two w0 p mb q mc S T w) (hb : Below w.heap.size w w') : Two w0 p mb q mc S T w' := by
  obtain ⟨g, g', h1, h2, h3⟩ := h.pk
  exact ⟨⟨g, g', h1.below hb, h2.below hb, h3⟩, below_then h.below h.lo hb⟩
theorem Two.step {w0 : World} {p mb q mc : Nat} {S S' T : St} {w w' : World} {g g' : Option Nat} (hb : Below w0.heap.size w0 w) (h1 : Pk w0.heap.size p mb g S.1 S.2 w) (h2 : Pk w0.heap.size q mc g' T.1 T.2 w) (h3 : ∀ k, Own p mb g k → ¬ Own q mc g' k)
    (hs : Stepped w0.heap.size p mb g S'.1 S'.2 w w') : Two w0 p mb q mc S' T w' := by
  obtain ⟨⟨g2, hp', hg2⟩, ht⟩ := hs
  refine ⟨⟨g2, g', hp', h2.kept ht fun k hk hk' => h3 k hk' hk, fun k hk hk' => ?_⟩, hb.trans (ht.below hb.size fun k hk => h1.own_lo k hk)⟩
  have hlt := h2.own_lt k hk'
  rcases hk with e | e | e
  · exact h3 k (.inl e) hk'
  · exact h3 k (.inr (.inl e)) hk'
  · rcases hg2 k e with e' | e'
    · exact h3 k (.inr (.inr e')) hk'
    · omega
theorem Two.Raw {w0 : World} {p mb q mc : Nat} {S T : St} {w : World} (h : Two w0 p mb q mc S T w) (s : ByteArray) (hl : S.1.length + s.size ≤ 1000000) :
    Calls Try.prog 11 #[.pointer (some ⟨p, 0, none⟩), .string s] w fun e w' => e = .returned (.tuple #[]) ∧ Two w0 p mb q mc (S.1 ++ s.data.toList, S.2) T w' := by
  obtain ⟨g, g', h1, h2, h3⟩ := h.pk
  exact (Pack.Raw w0.heap.size p mb g S.2 S.1 s w h1 hl h.lo).mono fun e w' ⟨he, hs⟩ => ⟨he, Two.step (S' := (S.1 ++ s.data.toList, S.2)) h.below h1 h2 h3 hs⟩
theorem Two.Name {w0 : World} {p mb q mc : Nat} {S T : St} {w : World} (h : Two w0 p mb q mc S T w) (n : ByteArray) (may : Bool) (b : Nat) (hf : Fit S b) (hb : b ≤ 900000) :
    Calls Try.prog 12 #[.pointer (some ⟨p, 0, none⟩), .string n, .bool may] w fun e w' => e = .returned (.int .i64 (codeOf n)) ∧ Two w0 p mb q mc (nameStep n may S) T w' := by
  obtain ⟨g, g', h1, h2, h3⟩ := h.pk
  unfold codeOf nameStep
  by_cases hr : rightB n = true
  · have hz := right_size hr
    rw [if_pos hr, if_pos hr]
    exact (Pack.Name w0.heap.size p mb g S.2 S.1 n may w h1 hr hf.small (by have := hf.bytes; omega) (by have := hf.known; omega) h.lo).mono fun e w' ⟨he, hs⟩ => ⟨he, Two.step (S' := putName n may S) h.below h1 h2 h3 hs⟩
  · rw [if_neg hr, if_neg hr]
    exact (Name_no p n may w (by simpa using hr)).mono fun e w' ⟨he, hs⟩ => ⟨he, h.rest hs⟩
/-- A second packer beside a first. -/
theorem One.second {w0 : World} {p mb q mc : Nat} {S : St} {w w' : World} (h : One w0 p mb S w) (hq : Pk w0.heap.size q mc none [] [] w') (h1 : w.heap.size ≤ q) (h2 : w.heap.size ≤ mc) (hb : Below w.heap.size w w') : Two w0 p mb q mc S ([], []) w' := by
  obtain ⟨g, hp⟩ := h.pk
  refine ⟨⟨g, none, hp.below hb, hq, fun k hk hk' => ?_⟩, below_then h.below h.lo hb⟩
  have := hp.own_lt k hk
  rcases hk' with e | e | e
  · omega
  · omega
  · cases e

/-! ### few -/
theorem few_f (l : List It) (hl : l.length ≤ 1000000) : ∀ (d i k : Nat), i + d = l.length → 2 * d + 2 ≤ k → beadrolllaw09_few.l0 k l (i : Int) = some (((l.drop i).take (50 - i)).all (fun x => decide (x.f1.size ≤ 17000)) && decide (l.length ≤ 40)) := by
  intro d
  induction d with
  | zero =>
    intro i k hd hk
    obtain ⟨k, rfl⟩ : ∃ j, k = j + 2 := ⟨k - 2, by omega⟩
    rw [beadrolllaw09_few.l0, if_neg (by omega), beadrolllaw09_few.j1, if_neg (by decide), List.drop_of_length_le (by omega)]
    simp; omega
  | succ d ih =>
    intro i k hd hk
    obtain ⟨k, rfl⟩ : ∃ j, k = j + 2 := ⟨k - 2, by omega⟩
    have hlt : i < l.length := by omega
    rw [beadrolllaw09_few.l0, if_pos (by omega), beadrolllaw09_few.j1]
    by_cases h50 : i < 50
    · rw [if_pos (by rw [decide_eq_true (by omega)]), if_pos (by omega), if_pos (by omega)]
      have hrd : rd_T31 l (i : Int) = l[i] := by
        unfold rd_T31; rw [Int.toNat_natCast, List.getD_eq_getElem?_getD, List.getElem?_eq_getElem hlt]; rfl
      obtain ⟨m, hm⟩ : ∃ m, 50 - i = m + 1 := ⟨50 - i - 1, by omega⟩
      rw [hrd, List.drop_eq_getElem_cons hlt, hm, List.take_succ_cons, List.all_cons]
      by_cases h17 : l[i].f1.size ≤ 17000
      · rw [if_neg (by omega), show wrap64 ((i : Int) + 1) = ((i + 1 : Nat) : Int) by rw [w64_id (by omega) (by omega)]; omega, ih (i + 1) k (by omega) (by omega), decide_eq_true h17, show 50 - (i + 1) = m by omega]; simp
      · rw [if_pos (by omega), decide_eq_false h17]; simp
    · rw [if_neg (by rw [decide_eq_false (by omega)]; decide), show 50 - i = 0 by omega]
      simp; omega
def fewB (l : List It) : Bool := l.all (fun x => decide (x.f1.size ≤ 17000)) && decide (l.length ≤ 40)
theorem few_is (l : List It) (hl : l.length ≤ 1000000) (k : Nat) (hk : 2 * l.length + 2 ≤ k) : beadrolllaw09_few.f k l = some (fewB l) := by
  unfold beadrolllaw09_few.f
  rw [show (0 : Int) = ((0 : Nat) : Int) from rfl, few_f l hl l.length 0 k (by omega) hk, List.drop_zero]
  congr 1
  unfold fewB
  by_cases h : l.length ≤ 40
  · rw [List.take_of_length_le (by omega)]
  · rw [decide_eq_false h]; simp
theorem few_big (l : List It) (hl : l.length ≤ 9223372036854775807) (k : Nat) : ∃ k, beadrolllaw09_few.f k l = some (fewB l) := by
  by_cases h : l.length ≤ 1000000
  · exact ⟨_, few_is l h _ (Nat.le_refl _)⟩
  · have hb : fewB l = false := by unfold fewB; rw [decide_eq_false (by omega)]; simp
    rw [hb]
    have : ∀ (d i k : Nat), i + d = 50 → 2 * d + 2 ≤ k → beadrolllaw09_few.l0 k l (i : Int) = some false := by
      intro d
      induction d with
      | zero =>
        intro i k hd hk
        obtain ⟨k, rfl⟩ : ∃ j, k = j + 2 := ⟨k - 2, by omega⟩
        rw [beadrolllaw09_few.l0, if_pos (by omega), beadrolllaw09_few.j1, if_neg (by rw [decide_eq_false (by omega)]; decide), decide_eq_false (by omega)]
      | succ d ih =>
        intro i k hd hk
        obtain ⟨k, rfl⟩ : ∃ j, k = j + 2 := ⟨k - 2, by omega⟩
        rw [beadrolllaw09_few.l0, if_pos (by omega), beadrolllaw09_few.j1, if_pos (by rw [decide_eq_true (by omega)]), if_pos (by omega), if_pos (by omega)]
        split
        · rfl
        · rw [show wrap64 ((i : Int) + 1) = ((i + 1 : Nat) : Int) by rw [w64_id (by omega) (by omega)]; omega, ih (i + 1) k (by omega) (by omega)]
    exact ⟨102, this 50 0 102 (by omega) (by omega)⟩
end Go.Proofs.Ytekbecpcbfhdmaa.Pack
