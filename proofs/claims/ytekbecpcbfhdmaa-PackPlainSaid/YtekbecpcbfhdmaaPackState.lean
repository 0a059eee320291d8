/- The packer's state in memory: its bytes in a row of its own, its map; and where an append puts its row. -/
import Derived.Test.YtekbecpcbfhdmaaProg
import Derived.Test.YtekbecpcbfhdmaaWWords
import Derived.WalkKit
import Derived.WalkLawsBesides
import Derived.OwnWalk
import Derived.Below
import Derived.Lib.AppendStr
import Derived.Lib.Builder
import Derived.Lib.Hide
import Derived.Maps.OwnSet
import Derived.Maps.Views
namespace Go.Proofs.Ytekbecpcbfhdmaa.Pack
open Go.RowKit Go.Proofs.YtekbecpcbfhdmaaW.PrintWords
set_option linter.unusedVariables false
theorem info_u8 : (Try.prog.info? 5).map (fun i => (i.zero, i.size, i.bytes)) = some (some (.int .u8 0), 1, 1) := by kernel_rfl
theorem info_u8' : ∃ i, Try.prog.info? 5 = some i ∧ i.zero = some (.int .u8 0) ∧ i.size = 1 ∧ i.bytes = 1 := by
  have h := info_u8
  cases hi : Try.prog.info? 5 with
  | none => rw [hi] at h; simp at h
  | some i =>
    rw [hi] at h
    simp only [Option.map_some, Option.some.injEq, Prod.mk.injEq] at h
    exact ⟨i, rfl, h.1, h.2.1, h.2.2⟩

/-! ### where an append of a string puts the row -/
section
variable {P : Program} (w : World)
theorem append_loc (base : Nat) (t u ty e : TypeId) (i : TypeInfo) (ht : P.underlying t = some (.slice e)) (hu : P.underlying u = some .string) (hi : P.info? e = some i) (hz : i.zero = some (.int .u8 0))
    (hsize : i.size = 1) (hby : i.bytes = 1) (v : Value) (n : Nat) (xs : List Value) (hown : w.ownsRow base e 1 v n xs) (s : ByteArray)
    (h63 : n + s.size ≤ maxLen) (hbytes : n + s.size ≤ 140737488355328) (v' : Value) (w' : World) (hr : (Builtin.append_ #[t, u] ty #[v, .string s]).run P w = .ok v' w') :
    v'.ownBlock = v.ownBlock ∨ v'.ownBlock = some w.heap.size := by
  have hsmall : n + s.size ≤ 9223372036854775807 := by simp only [maxLen] at h63; omega
  have hxl : xs.length = n := by simpa using hown.1
  rcases hown.2 with ⟨rfl, rfl⟩ | ⟨g, cap, cur, rfl, hbg, hg, hnc, hcm, hcs, htake⟩
  · by_cases hm : s.size = 0
    · have hf := Lib.run_firstCells_string (P := P) w 1 s
      rw [hm] at hf
      simp [Builtin.append_, run_underlying ht, run_underlying hu, sizeOf, typeInfo, hi, hsize, Builtin.lenOf, hm, hf] at hr
      obtain ⟨rfl, _⟩ := hr
      exact .inl rfl
    · rw [run_append_nil_string (P := P) w t u ty e i (.int .u8 0) ht hu hi hz s (by omega) (by omega) (by rw [hby]; omega)] at hr
      cases hr
      exact .inr rfl
  · by_cases hroom : n + s.size ≤ cap
    · have hcs' : cur.size = cap := by simpa using hcs
      rw [Lib.run_append_room_string (P := P) w t u ty e i ht hu hi hsize g n cap cur hg s hroom (by omega)] at hr
      cases hr
      exact .inl rfl
    · have holds : ∀ j u, xs[j]? = some u → w.cell? ((⟨g, 0, none⟩ : Addr).add j) = some u := hown.cells (g := g) rfl
      rw [Lib.run_append_grow_string (P := P) w t u ty e i (.int .u8 0) ht hu hi hz ⟨g, 0, none⟩ n cap xs (by rw [hsize]; simpa using hxl) holds s (by omega) (by omega) (by rw [hby]; exact growslice_fits (by omega) (by omega))] at hr
      cases hr
      exact .inr rfl
theorem wpList_append_str {ops : Array Oper} {rest : List Oper} {o : Oper} {a : Act} {Q : Exit → Act → World → Prop} (hgd : o.guard = none) (sl x : Operand) (t u : TypeId)
    (ho : o.op = .call { callee := .builtin .append, args := #[sl, x], argTypes := #[t, u] })
    (base : Nat) (e : TypeId) (i : TypeInfo) (ht : P.underlying t = some (.slice e)) (hu : P.underlying u = some .string) (hi : P.info? e = some i) (hz : i.zero = some (.int .u8 0))
    (hsize : i.size = 1) (hby : i.bytes = 1)
    (v : Value) (n : Nat) (xs : List Value) (hs : a.eval sl = v) (hown : w.ownsRow base e 1 v n xs) (s : ByteArray) (hx : a.eval x = .string s)
    (h63 : n + s.size ≤ maxLen) (hbytes : n + s.size ≤ 140737488355328) (hbase : base ≤ w.heap.size)
    (h : ∀ v' w', w'.ownsRow base e 1 v' (n + s.size) (xs ++ Lib.strCells s) → w.grownBy w' v.ownBlock → (v'.ownBlock = v.ownBlock ∨ v'.ownBlock = some w.heap.size) → wpList P ops Q rest (a.put o.dst v') w') : wpList P ops Q (o :: rest) a w := by
  refine wpList_plain hgd fun K hK => ?_
  obtain ⟨v', w', hr, h2, h3, h4⟩ := Lib.run_append_own_string (P := P) w base t u o.type e i ht hu hi hz hsize hby v n xs hown s h63 hbytes hbase
  have h5 := append_loc (P := P) w base t u o.type e i ht hu hi hz hsize hby v n xs hown s h63 hbytes v' w' hr
  unfold Oper.wp execOp
  simp only [ho, resolve, invoke, builtin, Sem.run_bind, Sem.run_pure, Result.andThen_ok, List.map_toArray, List.map_cons, List.map_nil, hs, hx, hr]
  exact hK _ _ (h v' w' h2 h3 h5)
end

/-! ### a world that keeps all blocks but some -/
structure Touch (S : Nat → Prop) (w w' : World) : Prop where
  os : w'.os = w.os
  tape : w'.tape = w.tape
  output : w'.output = w.output
  size : w.heap.size ≤ w'.heap.size
  block : ∀ k, k < w.heap.size → ¬ S k → w'.heap[k]? = w.heap[k]?
theorem Touch.refl (S : Nat → Prop) (w : World) : Touch S w w := ⟨rfl, rfl, rfl, Nat.le_refl _, fun _ _ _ => rfl⟩
theorem Touch.mono {S S' : Nat → Prop} {w w' : World} (h : Touch S w w') (hs : ∀ k, k < w.heap.size → S k → S' k) : Touch S' w w' := ⟨h.os, h.tape, h.output, h.size, fun k hk hn => h.block k hk fun hS => hn (hs k hk hS)⟩
theorem Touch.trans {S S' : Nat → Prop} {a b c : World} (h : Touch S a b) (h' : Touch S' b c) (hs : ∀ k, k < a.heap.size → S' k → S k) : Touch S a c :=
  ⟨h'.os.trans h.os, h'.tape.trans h.tape, h'.output.trans h.output, Nat.le_trans h.size h'.size, fun k hk hn => (h'.block k (Nat.lt_of_lt_of_le hk h.size) fun hS => hn (hs k hk hS)).trans (h.block k hk hn)⟩
theorem Touch.of_grown {S : Nat → Prop} {w w' : World} {row : Option Nat} (h : w.grownBy w' row) (hs : ∀ k, row = some k → S k) : Touch S w w' := ⟨h.os, h.tape, h.output, h.size, fun k hk hn => h.block k hk fun e => hn (hs k e.symm)⟩
theorem Touch.setCell {S : Nat → Prop} {w : World} {p : Addr} (hp : S p.block) (u : Value) : Touch S w (w.setCell p u) := ⟨rfl, rfl, rfl, by simp [World.setCell], fun k hk hn => Below.heap_setCell _ _ _ _ fun e => hn (e ▸ hp)⟩
theorem Touch.of_below {S : Nat → Prop} {w w' : World} (h : Below w.heap.size w w') : Touch S w w' := ⟨h.os, h.tape, h.output, h.size, fun k hk _ => h.block k hk⟩
theorem Touch.below {S : Nat → Prop} {w w' : World} {B : Nat} (h : Touch S w w') (hB : B ≤ w.heap.size) (hs : ∀ k, S k → B ≤ k) : Below B w w' := ⟨h.os, h.tape, h.output, h.size, fun k hk => h.block k (by omega) fun hS => by have := hs k hS; omega⟩
theorem Touch.grown {w w' : World} {row : Option Nat} {S : Nat → Prop} (h : Touch S w w') (hs : ∀ k, S k → row = some k) : w.grownBy w' row := ⟨h.os, h.tape, h.output, h.size, fun k hk hn => h.block k hk fun hS => hn (hs k hS).symm⟩

/-! ### the map -/
def look : List (ByteArray × Nat) → ByteArray → Option Nat
  | [], _ => none
  | (m, i) :: r, n => if n = m then some i else look r n
def klit (s : ByteArray) : Lit := .string s.data.toList
theorem klit_inj {a b : ByteArray} (h : klit a = klit b) : a = b := by
  unfold klit at h
  injection h with h
  apply ByteArray.ext
  exact Array.ext' h
theorem klit_key (s : ByteArray) : WideAt.IsKeyLit (klit s) := by unfold klit; trivial
/-- The datum D is what the list K tells. -/
def Says (D : DataW Unit) (K : List (ByteArray × Nat)) : Prop := Maps.IsMap D ∧ ∀ n, (Maps.has D (klit n) = (look K n).isSome) ∧ ∀ i, look K n = some i → ∀ z, D.atKey (klit n) z = .lit (.int .i64 (i : Int))
theorem says_nil : Says (.map []) [] := ⟨Maps.isMap_empty, fun n => ⟨rfl, fun i h => by simp [look] at h⟩⟩
theorem Says.put {D : DataW Unit} {K : List (ByteArray × Nat)} (h : Says D K) (n : ByteArray) (i : Nat) : Says (D.put (klit n) (.lit (.int .i64 (i : Int)))) ((n, i) :: K) := by
  refine ⟨h.1.put _ _, fun m => ?_⟩
  by_cases hm : m = n
  · subst hm
    refine ⟨?_, fun j hj z => ?_⟩
    · rw [Maps.has_put_same h.1 (klit_key _)]; simp [look]
    · simp only [look, if_true] at hj
      obtain rfl := Option.some.inj hj
      rw [Maps.atKey_put_same h.1 (klit_key _)]
  · have hne : klit m ≠ klit n := fun e => hm (klit_inj e)
    refine ⟨?_, fun j hj z => ?_⟩
    · rw [Maps.has_put_other hne, (h.2 m).1]; simp [look, hm]
    · simp only [look, if_neg hm] at hj
      rw [Maps.atKey_put_other hne]; exact (h.2 m).2 j hj z
/-- Block mb is a map that tells K. -/
def Knows (mb : Nat) (K : List (ByteArray × Nat)) (w : World) : Prop := ∃ D : DataW Unit, Says D K ∧ w.ownsMap Try.prog 9 (plainElem Try.prog 3) mb K.length D

/-! ### the packer -/
/-- A packer in block p: its bytes in a row (block g) of its own, from block lo on; its map in block mb. -/
structure Pk (lo p mb : Nat) (g : Option Nat) (bs : List UInt8) (K : List (ByteArray × Nat)) (w : World) : Prop where
  lop : lo ≤ p
  lom : lo ≤ mb
  ltp : p < w.heap.size
  cells : ∃ v, v.ownBlock = g ∧ w.heap[p]? = some (.cells #[v, .map (some mb)] 49 (0, 0)) ∧ w.ownsRow lo 5 1 v bs.length (Lib.byteCells bs)
  map : Knows mb K w
def Own (p mb : Nat) (g : Option Nat) (k : Nat) : Prop := k = p ∨ k = mb ∨ g = some k
theorem Knows.lt {mb : Nat} {K : List (ByteArray × Nat)} {w : World} (h : Knows mb K w) : mb < w.heap.size := by
  obtain ⟨D, _, hD⟩ := h; exact hD.lt
theorem Knows.kept {mb : Nat} {K : List (ByteArray × Nat)} {w w' : World} {S : Nat → Prop} (h : Knows mb K w) (ht : Touch S w w') (hn : ¬ S mb) : Knows mb K w' := by
  have hlt := h.lt
  obtain ⟨D, hs, es, clock, hb, F, hsz, hD⟩ := h
  exact ⟨D, hs, es, clock, (ht.block mb hlt hn).trans hb, F, hsz, hD⟩
theorem row_touch {lo : Nat} {v : Value} {n : Nat} {xs : List Value} {w w' : World} {S : Nat → Prop} (h : w.ownsRow lo 5 1 v n xs) (ht : Touch S w w') (hg : ∀ k, v.ownBlock = some k → ¬ S k) : w'.ownsRow lo 5 1 v n xs := by
  refine ⟨h.1, ?_⟩
  rcases h.2 with h0 | ⟨g, cap, cur, hv, hl, hh, r⟩
  · exact .inl h0
  · have hlt : g < w.heap.size := (Array.getElem?_eq_some_iff.1 hh).1
    exact .inr ⟨g, cap, cur, hv, hl, (ht.block g hlt (hg g (by rw [hv]; rfl))).trans hh, r⟩
theorem Pk.kept {lo p mb : Nat} {g : Option Nat} {bs : List UInt8} {K : List (ByteArray × Nat)} {w w' : World} {S : Nat → Prop} (h : Pk lo p mb g bs K w) (ht : Touch S w w') (hs : ∀ k, Own p mb g k → ¬ S k) : Pk lo p mb g bs K w' := by
  obtain ⟨v, hv, hc, hr⟩ := h.cells
  exact ⟨h.lop, h.lom, Nat.lt_of_lt_of_le h.ltp ht.size, ⟨v, hv, (ht.block p h.ltp (hs p (.inl rfl))).trans hc, row_touch hr ht fun k hk => hs k (.inr (.inr (hv ▸ hk)))⟩, h.map.kept ht (hs mb (.inr (.inl rfl)))⟩
theorem Pk.own_lt {lo p mb : Nat} {g : Option Nat} {bs : List UInt8} {K : List (ByteArray × Nat)} {w : World} (h : Pk lo p mb g bs K w) (k : Nat) (hk : Own p mb g k) : k < w.heap.size := by
  obtain ⟨v, hv, hc, hr⟩ := h.cells
  rcases hk with rfl | rfl | hg
  · exact h.ltp
  · exact h.map.lt
  · rcases hr.2 with ⟨rfl, _⟩ | ⟨g0, cap, cur, rfl, hl, hh, r⟩
    · rw [← hv] at hg; cases hg
    · rw [← hv] at hg
      simp only [Value.ownBlock, Option.some.injEq] at hg
      subst hg
      exact (Array.getElem?_eq_some_iff.1 hh).1
theorem Pk.own_lo {lo p mb : Nat} {g : Option Nat} {bs : List UInt8} {K : List (ByteArray × Nat)} {w : World} (h : Pk lo p mb g bs K w) (k : Nat) (hk : Own p mb g k) : lo ≤ k := by
  obtain ⟨v, hv, hc, hr⟩ := h.cells
  rcases hk with rfl | rfl | hg
  · exact h.lop
  · exact h.lom
  · rcases hr.2 with ⟨rfl, _⟩ | ⟨g0, cap, cur, rfl, hl, hh, r⟩
    · rw [← hv] at hg; cases hg
    · rw [← hv] at hg
      simp only [Value.ownBlock, Option.some.injEq] at hg
      subst hg
      exact hl
theorem Pk.below {lo p mb : Nat} {g : Option Nat} {bs : List UInt8} {K : List (ByteArray × Nat)} {w w' : World} (h : Pk lo p mb g bs K w) (hb : Below w.heap.size w w') : Pk lo p mb g bs K w' :=
  h.kept (S := fun _ => False) (Touch.of_below hb) (fun _ _ h => h)
theorem cells_str (bs : List UInt8) (s : ByteArray) : Lib.byteCells bs ++ Lib.strCells s = Lib.byteCells (bs ++ s.data.toList) := by simp [Lib.byteCells, Lib.strCells]
end Go.Proofs.Ytekbecpcbfhdmaa.Pack
