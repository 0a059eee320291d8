/- Joined out of this session's own texts: contracts and facts that the claim's row is drawn from, each with its own conditions. -/
import Derived.Test.YtekbecpcbfhdmaaProg
import Derived.Test.YtekbecpcbfhdmaaWWords
import Derived.WalkKit
import Derived.WalkLawsBesides
import Derived.OwnWalk
import Derived.Below
import Derived.Lib.AppendStr
import Derived.Lib.Builder
import Derived.Lib.Hide
import Derived.Maps.OwnSet
import Derived.Maps.Views
import Derived.Test.YtekbecpcbfhdmaaWMore
import Derived.Outline
import Derived.Laws.BitsAllLaws
import Derived.WalkSpells
import Derived.Lib.ConvBytes
import Derived.RangeFuncFrom
import Derived.RangeFuncLeaves
import Derived.RangeFuncCalls
import Derived.Shelf.Abstract
import Derived.OwnWalkIn
import Derived.TacticsInMore
import Derived.LoopNIn
import Derived.LoopIn
import Derived.Defers
import Derived.Recover
import Derived.Laws.Pointers
import Derived.Laws.Strings
import Derived.RangeFuncBox
import Derived.Deep.RegionLaw
import Derived.Deep.RegionWith
import Derived.Deep.DrawnRows
import Derived.Test.YtekbecpcbfhdmaaWApart
import Derived.Test.YtekbecpcbfhdmaaWKept
import Derived.Test.YtekbecpcbfhdmaaWLast
import Derived.Deep.Draws
import Derived.Deep.AppendLies
import Derived.Maps.AppendAt
import Derived.Laws.BytesArg
import Derived.Laws.MakeOwn
import Derived.Laws.OwnMore
import Derived.Deep.OwnRows
import Derived.Tactics
import Derived.Laws.Slices
import Derived.KernelRfl
import Derived.RowKit3
import Derived.Deep.LoopGhost
import Derived.Deep.QuietTactic
import Derived.BigQuiet
import Derived.WideLaws
import Derived.Deep.DeepCutAuto
import Derived.Deep.CutBlock
import Derived.Deep.RegionHeld3
import Derived.Laws.Rows
import Derived.ArgAppend
import Derived.Laws.IdiomCopy
import Derived.OrdersHeld
import Derived.Laws.BitsLemmas
import Derived.RowKit
import Derived.Test.YtekbecpcbfhdmaaWTab
import Derived.Test.YtekbecpcbfhdmaaWFour
import Derived.Test.YtekbecpcbfhdmaaWQPut
import Derived.Test.YtekbecpcbfhdmaaWArr
import Derived.Test.YtekbecpcbfhdmaaWZeros
import Derived.Test.YtekbecpcbfhdmaaWFoot
import Derived.Test.YtekbecpcbfhdmaaWShare
import Derived.Test.YtekbecpcbfhdmaaWN
import Derived.Test.YtekbecpcbfhdmaaWFootNe
import Derived.Test.YtekbecpcbfhdmaaWAt
import Derived.Test.YtekbecpcbfhdmaaWEqStruct
import Derived.Test.YtekbecpcbfhdmaaWRepsOne
import Derived.Test.YtekbecpcbfhdmaaWInv
import Derived.Test.YtekbecpcbfhdmaaWInvWords
import Derived.Test.YtekbecpcbfhdmaaWGuard
import Derived.Test.YtekbecpcbfhdmaaWNEv
import Derived.StillTailTactics
/- The packer's state in memory: its bytes in a row of its own, its map; and where an append puts its row. -/
namespace Go.Proofs.Ytekbecpcbfhdmaa.Pack
open Go.RowKit Go.Proofs.YtekbecpcbfhdmaaW.PrintWords
set_option linter.unusedVariables false
theorem info_u8 : (Try.prog.info? 5).map (fun i => (i.zero, i.size, i.bytes)) = some (some (.int .u8 0), 1, 1) := by kernel_rfl
theorem info_u8' : ∃ i, Try.prog.info? 5 = some i ∧ i.zero = some (.int .u8 0) ∧ i.size = 1 ∧ i.bytes = 1 := by
  have h := info_u8
  cases hi : Try.prog.info? 5 with
  | none => rw [hi] at h; simp at h
  | some i =>
    rw [hi] at h
    simp only [Option.map_some, Option.some.injEq, Prod.mk.injEq] at h
    exact ⟨i, rfl, h.1, h.2.1, h.2.2⟩

/-! ### where an append of a string puts the row -/
section
variable {P : Program} (w : World)
theorem append_loc (base : Nat) (t u ty e : TypeId) (i : TypeInfo) (ht : P.underlying t = some (.slice e)) (hu : P.underlying u = some .string) (hi : P.info? e = some i) (hz : i.zero = some (.int .u8 0))
    (hsize : i.size = 1) (hby : i.bytes = 1) (v : Value) (n : Nat) (xs : List Value) (hown : w.ownsRow base e 1 v n xs) (s : ByteArray)
    (h63 : n + s.size ≤ maxLen) (hbytes : n + s.size ≤ 140737488355328) (v' : Value) (w' : World) (hr : (Builtin.append_ #[t, u] ty #[v, .string s]).run P w = .ok v' w') :
    v'.ownBlock = v.ownBlock ∨ v'.ownBlock = some w.heap.size := by
  have hsmall : n + s.size ≤ 9223372036854775807 := by simp only [maxLen] at h63; omega
  have hxl : xs.length = n := by simpa using hown.1
  rcases hown.2 with ⟨rfl, rfl⟩ | ⟨g, cap, cur, rfl, hbg, hg, hnc, hcm, hcs, htake⟩
  · by_cases hm : s.size = 0
    · have hf := Lib.run_firstCells_string (P := P) w 1 s
      rw [hm] at hf
      simp [Builtin.append_, run_underlying ht, run_underlying hu, sizeOf, typeInfo, hi, hsize, Builtin.lenOf, hm, hf] at hr
      obtain ⟨rfl, _⟩ := hr
      exact .inl rfl
    · rw [run_append_nil_string (P := P) w t u ty e i (.int .u8 0) ht hu hi hz s (by omega) (by omega) (by rw [hby]; omega)] at hr
      cases hr
      exact .inr rfl
  · by_cases hroom : n + s.size ≤ cap
    · have hcs' : cur.size = cap := by simpa using hcs
      rw [Lib.run_append_room_string (P := P) w t u ty e i ht hu hi hsize g n cap cur hg s hroom (by omega)] at hr
      cases hr
      exact .inl rfl
    · have holds : ∀ j u, xs[j]? = some u → w.cell? ((⟨g, 0, none⟩ : Addr).add j) = some u := hown.cells (g := g) rfl
      rw [Lib.run_append_grow_string (P := P) w t u ty e i (.int .u8 0) ht hu hi hz ⟨g, 0, none⟩ n cap xs (by rw [hsize]; simpa using hxl) holds s (by omega) (by omega) (by rw [hby]; exact growslice_fits (by omega) (by omega))] at hr
      cases hr
      exact .inr rfl
theorem wpList_append_str {ops : Array Oper} {rest : List Oper} {o : Oper} {a : Act} {Q : Exit → Act → World → Prop} (hgd : o.guard = none) (sl x : Operand) (t u : TypeId)
    (ho : o.op = .call { callee := .builtin .append, args := #[sl, x], argTypes := #[t, u] })
    (base : Nat) (e : TypeId) (i : TypeInfo) (ht : P.underlying t = some (.slice e)) (hu : P.underlying u = some .string) (hi : P.info? e = some i) (hz : i.zero = some (.int .u8 0))
    (hsize : i.size = 1) (hby : i.bytes = 1)
    (v : Value) (n : Nat) (xs : List Value) (hs : a.eval sl = v) (hown : w.ownsRow base e 1 v n xs) (s : ByteArray) (hx : a.eval x = .string s)
    (h63 : n + s.size ≤ maxLen) (hbytes : n + s.size ≤ 140737488355328) (hbase : base ≤ w.heap.size)
    (h : ∀ v' w', w'.ownsRow base e 1 v' (n + s.size) (xs ++ Lib.strCells s) → w.grownBy w' v.ownBlock → (v'.ownBlock = v.ownBlock ∨ v'.ownBlock = some w.heap.size) → wpList P ops Q rest (a.put o.dst v') w') : wpList P ops Q (o :: rest) a w := by
  refine wpList_plain hgd fun K hK => ?_
  obtain ⟨v', w', hr, h2, h3, h4⟩ := Lib.run_append_own_string (P := P) w base t u o.type e i ht hu hi hz hsize hby v n xs hown s h63 hbytes hbase
  have h5 := append_loc (P := P) w base t u o.type e i ht hu hi hz hsize hby v n xs hown s h63 hbytes v' w' hr
  unfold Oper.wp execOp
  simp only [ho, resolve, invoke, builtin, Sem.run_bind, Sem.run_pure, Result.andThen_ok, List.map_toArray, List.map_cons, List.map_nil, hs, hx, hr]
  exact hK _ _ (h v' w' h2 h3 h5)
end

/-! ### a world that keeps all blocks but some -/
structure Touch (S : Nat → Prop) (w w' : World) : Prop where
  os : w'.os = w.os
  tape : w'.tape = w.tape
  output : w'.output = w.output
  size : w.heap.size ≤ w'.heap.size
  block : ∀ k, k < w.heap.size → ¬ S k → w'.heap[k]? = w.heap[k]?
theorem Touch.refl (S : Nat → Prop) (w : World) : Touch S w w := ⟨rfl, rfl, rfl, Nat.le_refl _, fun _ _ _ => rfl⟩
theorem Touch.mono {S S' : Nat → Prop} {w w' : World} (h : Touch S w w') (hs : ∀ k, k < w.heap.size → S k → S' k) : Touch S' w w' := ⟨h.os, h.tape, h.output, h.size, fun k hk hn => h.block k hk fun hS => hn (hs k hk hS)⟩
theorem Touch.trans {S S' : Nat → Prop} {a b c : World} (h : Touch S a b) (h' : Touch S' b c) (hs : ∀ k, k < a.heap.size → S' k → S k) : Touch S a c :=
  ⟨h'.os.trans h.os, h'.tape.trans h.tape, h'.output.trans h.output, Nat.le_trans h.size h'.size, fun k hk hn => (h'.block k (Nat.lt_of_lt_of_le hk h.size) fun hS => hn (hs k hk hS)).trans (h.block k hk hn)⟩
theorem Touch.of_grown {S : Nat → Prop} {w w' : World} {row : Option Nat} (h : w.grownBy w' row) (hs : ∀ k, row = some k → S k) : Touch S w w' := ⟨h.os, h.tape, h.output, h.size, fun k hk hn => h.block k hk fun e => hn (hs k e.symm)⟩
theorem Touch.setCell {S : Nat → Prop} {w : World} {p : Addr} (hp : S p.block) (u : Value) : Touch S w (w.setCell p u) := ⟨rfl, rfl, rfl, by simp [World.setCell], fun k hk hn => Below.heap_setCell _ _ _ _ fun e => hn (e ▸ hp)⟩
theorem Touch.of_below {S : Nat → Prop} {w w' : World} (h : Below w.heap.size w w') : Touch S w w' := ⟨h.os, h.tape, h.output, h.size, fun k hk _ => h.block k hk⟩
theorem Touch.below {S : Nat → Prop} {w w' : World} {B : Nat} (h : Touch S w w') (hB : B ≤ w.heap.size) (hs : ∀ k, S k → B ≤ k) : Below B w w' := ⟨h.os, h.tape, h.output, h.size, fun k hk => h.block k (by omega) fun hS => by have := hs k hS; omega⟩
theorem Touch.grown {w w' : World} {row : Option Nat} {S : Nat → Prop} (h : Touch S w w') (hs : ∀ k, S k → row = some k) : w.grownBy w' row := ⟨h.os, h.tape, h.output, h.size, fun k hk hn => h.block k hk fun hS => hn (hs k hS).symm⟩

/-! ### the map -/
def look : List (ByteArray × Nat) → ByteArray → Option Nat
  | [], _ => none
  | (m, i) :: r, n => if n = m then some i else look r n
def klit (s : ByteArray) : Lit := .string s.data.toList
theorem klit_inj {a b : ByteArray} (h : klit a = klit b) : a = b := by
  unfold klit at h
  injection h with h
  apply ByteArray.ext
  exact Array.ext' h
theorem klit_key (s : ByteArray) : WideAt.IsKeyLit (klit s) := by unfold klit; trivial
/-- The datum D is what the list K tells. -/
def Says (D : DataW Unit) (K : List (ByteArray × Nat)) : Prop := Maps.IsMap D ∧ ∀ n, (Maps.has D (klit n) = (look K n).isSome) ∧ ∀ i, look K n = some i → ∀ z, D.atKey (klit n) z = .lit (.int .i64 (i : Int))
theorem says_nil : Says (.map []) [] := ⟨Maps.isMap_empty, fun n => ⟨rfl, fun i h => by simp [look] at h⟩⟩
theorem Says.put {D : DataW Unit} {K : List (ByteArray × Nat)} (h : Says D K) (n : ByteArray) (i : Nat) : Says (D.put (klit n) (.lit (.int .i64 (i : Int)))) ((n, i) :: K) := by
  refine ⟨h.1.put _ _, fun m => ?_⟩
  by_cases hm : m = n
  · subst hm
    refine ⟨?_, fun j hj z => ?_⟩
    · rw [Maps.has_put_same h.1 (klit_key _)]; simp [look]
    · simp only [look, if_true] at hj
      obtain rfl := Option.some.inj hj
      rw [Maps.atKey_put_same h.1 (klit_key _)]
  · have hne : klit m ≠ klit n := fun e => hm (klit_inj e)
    refine ⟨?_, fun j hj z => ?_⟩
    · rw [Maps.has_put_other hne, (h.2 m).1]; simp [look, hm]
    · simp only [look, if_neg hm] at hj
      rw [Maps.atKey_put_other hne]; exact (h.2 m).2 j hj z
/-- Block mb is a map that tells K. -/
def Knows (mb : Nat) (K : List (ByteArray × Nat)) (w : World) : Prop := ∃ D : DataW Unit, Says D K ∧ w.ownsMap Try.prog 9 (plainElem Try.prog 3) mb K.length D

/-! ### the packer -/
/-- A packer in block p: its bytes in a row (block g) of its own, from block lo on; its map in block mb. -/
structure Pk (lo p mb : Nat) (g : Option Nat) (bs : List UInt8) (K : List (ByteArray × Nat)) (w : World) : Prop where
  lop : lo ≤ p
  lom : lo ≤ mb
  ltp : p < w.heap.size
  cells : ∃ v, v.ownBlock = g ∧ w.heap[p]? = some (.cells #[v, .map (some mb)] 49 (0, 0)) ∧ w.ownsRow lo 5 1 v bs.length (Lib.byteCells bs)
  map : Knows mb K w
def Own (p mb : Nat) (g : Option Nat) (k : Nat) : Prop := k = p ∨ k = mb ∨ g = some k
theorem Knows.lt {mb : Nat} {K : List (ByteArray × Nat)} {w : World} (h : Knows mb K w) : mb < w.heap.size := by
  obtain ⟨D, _, hD⟩ := h; exact hD.lt
theorem Knows.kept {mb : Nat} {K : List (ByteArray × Nat)} {w w' : World} {S : Nat → Prop} (h : Knows mb K w) (ht : Touch S w w') (hn : ¬ S mb) : Knows mb K w' := by
  have hlt := h.lt
  obtain ⟨D, hs, es, clock, hb, F, hsz, hD⟩ := h
  exact ⟨D, hs, es, clock, (ht.block mb hlt hn).trans hb, F, hsz, hD⟩
theorem row_touch {lo : Nat} {v : Value} {n : Nat} {xs : List Value} {w w' : World} {S : Nat → Prop} (h : w.ownsRow lo 5 1 v n xs) (ht : Touch S w w') (hg : ∀ k, v.ownBlock = some k → ¬ S k) : w'.ownsRow lo 5 1 v n xs := by
  refine ⟨h.1, ?_⟩
  rcases h.2 with h0 | ⟨g, cap, cur, hv, hl, hh, r⟩
  · exact .inl h0
  · have hlt : g < w.heap.size := (Array.getElem?_eq_some_iff.1 hh).1
    exact .inr ⟨g, cap, cur, hv, hl, (ht.block g hlt (hg g (by rw [hv]; rfl))).trans hh, r⟩
theorem Pk.kept {lo p mb : Nat} {g : Option Nat} {bs : List UInt8} {K : List (ByteArray × Nat)} {w w' : World} {S : Nat → Prop} (h : Pk lo p mb g bs K w) (ht : Touch S w w') (hs : ∀ k, Own p mb g k → ¬ S k) : Pk lo p mb g bs K w' := by
  obtain ⟨v, hv, hc, hr⟩ := h.cells
  exact ⟨h.lop, h.lom, Nat.lt_of_lt_of_le h.ltp ht.size, ⟨v, hv, (ht.block p h.ltp (hs p (.inl rfl))).trans hc, row_touch hr ht fun k hk => hs k (.inr (.inr (hv ▸ hk)))⟩, h.map.kept ht (hs mb (.inr (.inl rfl)))⟩
theorem Pk.own_lt {lo p mb : Nat} {g : Option Nat} {bs : List UInt8} {K : List (ByteArray × Nat)} {w : World} (h : Pk lo p mb g bs K w) (k : Nat) (hk : Own p mb g k) : k < w.heap.size := by
  obtain ⟨v, hv, hc, hr⟩ := h.cells
  rcases hk with rfl | rfl | hg
  · exact h.ltp
  · exact h.map.lt
  · rcases hr.2 with ⟨rfl, _⟩ | ⟨g0, cap, cur, rfl, hl, hh, r⟩
    · rw [← hv] at hg; cases hg
    · rw [← hv] at hg
      simp only [Value.ownBlock, Option.some.injEq] at hg
      subst hg
      exact (Array.getElem?_eq_some_iff.1 hh).1
theorem Pk.own_lo {lo p mb : Nat} {g : Option Nat} {bs : List UInt8} {K : List (ByteArray × Nat)} {w : World} (h : Pk lo p mb g bs K w) (k : Nat) (hk : Own p mb g k) : lo ≤ k := by
  obtain ⟨v, hv, hc, hr⟩ := h.cells
  rcases hk with rfl | rfl | hg
  · exact h.lop
  · exact h.lom
  · rcases hr.2 with ⟨rfl, _⟩ | ⟨g0, cap, cur, rfl, hl, hh, r⟩
    · rw [← hv] at hg; cases hg
    · rw [← hv] at hg
      simp only [Value.ownBlock, Option.some.injEq] at hg
      subst hg
      exact hl
theorem Pk.below {lo p mb : Nat} {g : Option Nat} {bs : List UInt8} {K : List (ByteArray × Nat)} {w w' : World} (h : Pk lo p mb g bs K w) (hb : Below w.heap.size w w') : Pk lo p mb g bs K w' :=
  h.kept (S := fun _ => False) (Touch.of_below hb) (fun _ _ h => h)
theorem cells_str (bs : List UInt8) (s : ByteArray) : Lib.byteCells bs ++ Lib.strCells s = Lib.byteCells (bs ++ s.data.toList) := by simp [Lib.byteCells, Lib.strCells]
end Go.Proofs.Ytekbecpcbfhdmaa.Pack
/- Words on []byte(s): a byte of it may be stored, and what is then made a string again is the list with that byte. -/
namespace Go.Proofs.Ytekbecpcbfhdmaa.BytesWords
open Go.RowKit Go.Proofs.YtekbecpcbfhdmaaW.PrintWords

theorem cell_at {W : World} {g n : Nat} {xs : List Int} (h : ReadsInt W .u8 (some ⟨g, 0, none⟩) n xs) (j : Nat) (hj : j < n) : W.cell? ⟨g, j, none⟩ = some (.int .u8 (xs.getD j 0)) := by
  obtain ⟨ad, e, hc⟩ := h.2.2 (by omega)
  obtain rfl := Option.some.inj e
  have := hc j hj
  rwa [add_plain] at this
theorem bytes_set {W : World} {g n : Nat} {xs : List Int} (h : ReadsInt W .u8 (some ⟨g, 0, none⟩) n xs) (j : Nat) (x : Int) : ReadsInt (W.setCell ⟨g, j, none⟩ (.int .u8 x)) .u8 (some ⟨g, 0, none⟩) n (xs.set j x) := by
  have hx := h.1
  refine ⟨by simpa using h.1, h.2.1, fun _ => ⟨_, rfl, fun i hi => ?_⟩⟩
  rw [add_plain]
  have hci := cell_at h i hi
  by_cases hij : i = j
  · subst hij
    rw [World.cell?_setCell_same _ _ _ hci]
    simp [List.getD_eq_getElem?_getD, show i < xs.length from by omega]
  · rw [World.cell?_setCell_other _ _ _ _ (fun hc => hij (by cases hc; rfl)), hci]
    simp [List.getD_eq_getElem?_getD, Ne.symm hij]
theorem frozen_at (w : World) (e : TypeId) (s : ByteArray) (j : Nat) (hj : j < s.size) : (Lib.bytesWorld w e s).frozen? ⟨w.heap.size, j, none⟩ = false := by
  have h := Lib.bytesWorld_at_new w e s
  have hc := Lib.bytesWorld_cell w e s j hj
  have hs : j < (Lib.bytesCells w e s).size := by
    by_cases hlt : j < (Lib.bytesCells w e s).size
    · exact hlt
    · exfalso
      simp [World.cell?, h, Array.getElem?_eq_none (Nat.le_of_not_lt hlt)] at hc
  simp [World.frozen?, h]
  omega

end Go.Proofs.Ytekbecpcbfhdmaa.BytesWords
/- Words on worlds: what a call may have changed besides making new memory: the blocks of a set. -/
namespace Go.Proofs.Ytekbecpcbfhdmaa.UpdWords
open Go.RowKit Go.Proofs.YtekbecpcbfhdmaaW.PrintWords

/-- w' is w but for the blocks in S, and new ones. -/
structure Upd (S : Nat → Prop) (w w' : World) : Prop where
  os : w'.os = w.os
  tape : w'.tape = w.tape
  output : w'.output = w.output
  size : w.heap.size ≤ w'.heap.size
  block : ∀ k, k < w.heap.size → ¬ S k → w'.heap[k]? = w.heap[k]?
theorem Upd.refl (S : Nat → Prop) (w : World) : Upd S w w := ⟨rfl, rfl, rfl, Nat.le_refl _, fun _ _ _ => rfl⟩
theorem Upd.trans {S S' : Nat → Prop} {a b c : World} (h : Upd S a b) (k : Upd S' b c) (hs : ∀ i, S' i → S i ∨ a.heap.size ≤ i) : Upd S a c :=
  ⟨k.os.trans h.os, k.tape.trans h.tape, k.output.trans h.output, Nat.le_trans h.size k.size, fun i hi hn => (k.block i (Nat.lt_of_lt_of_le hi h.size) (fun h' => (hs i h').elim hn (fun h2 => by omega))).trans (h.block i hi hn)⟩
theorem Upd.mono {S S' : Nat → Prop} {a b : World} (h : Upd S a b) (hs : ∀ i, S i → S' i ∨ a.heap.size ≤ i) : Upd S' a b :=
  ⟨h.os, h.tape, h.output, h.size, fun i hi hn => h.block i hi (fun h' => (hs i h').elim hn (fun h2 => by omega))⟩
theorem Upd.of_below {S : Nat → Prop} {a b : World} (h : Below a.heap.size a b) : Upd S a b := ⟨h.os, h.tape, h.output, h.size, fun i hi _ => h.block i hi⟩
theorem Upd.below {S : Nat → Prop} {B : Nat} {a b c : World} (h : Below B a b) (k : Upd S b c) (hB : B ≤ b.heap.size) (hs : ∀ i, S i → B ≤ i) : Below B a c :=
  ⟨k.os.trans h.os, k.tape.trans h.tape, k.output.trans h.output, Nat.le_trans h.size k.size, fun i hi => (k.block i (by omega) (fun h' => by have := hs i h'; omega)).trans (h.block i hi)⟩
theorem Upd.to_below {S : Nat → Prop} {a b : World} (k : Upd S a b) (hs : ∀ i, S i → a.heap.size ≤ i) : Below a.heap.size a b :=
  Upd.below (Below.refl _ _) k (Nat.le_refl _) hs
theorem Upd.alloc {S : Nat → Prop} {a b : World} (h : Upd S a b) (o : Obj) : Upd S a (b.alloc o) :=
  h.trans (S' := fun _ => False) (Upd.of_below (below_alloc (Below.refl _ _) o)) (fun _ h => h.elim)
theorem Upd.drew {S : Nat → Prop} {a b : World} (h : Upd S a b) : Upd S a b.drew := ⟨h.os, h.tape, h.output, h.size, h.block⟩
theorem Upd.drewN {S : Nat → Prop} {a b : World} (h : Upd S a b) (n : Nat) : Upd S a (b.drewN n) := ⟨h.os, h.tape, h.output, h.size, h.block⟩
theorem Upd.set {S : Nat → Prop} {a b : World} (h : Upd S a b) (g j : Nat) (v : Value) (hg : S g ∨ a.heap.size ≤ g) : Upd S a (b.setCell ⟨g, j, none⟩ v) := by
  refine ⟨h.os, h.tape, h.output, by simpa using h.size, fun i hi hn => ?_⟩
  rw [Below.heap_setCell b ⟨g, j, none⟩ v i (fun e => hg.elim (fun h' => hn (e ▸ h')) (fun h' => by simp at e; omega))]
  exact h.block i hi hn
theorem Upd.heap {S : Nat → Prop} {a b : World} {g : Nat} {o : Obj} (h : Upd S a b) (hb : a.heap[g]? = some o) (hn : ¬ S g) : b.heap[g]? = some o := (h.block g (blk_lt hb) hn).trans hb
theorem alloc_old {w : World} {g : Nat} {o o' : Obj} (h : w.heap[g]? = some o) : (w.alloc o').heap[g]? = some o := by
  rw [heap_alloc_old (h := blk_lt h)]; exact h
theorem Upd.grown {S : Nat → Prop} {a b c : World} {row : Option Nat} (h : Upd S a b) (hg : b.grownBy c row) (hr : ∀ k, row = some k → S k ∨ a.heap.size ≤ k) : Upd S a c :=
  ⟨hg.os.trans h.os, hg.tape.trans h.tape, hg.output.trans h.output, Nat.le_trans h.size hg.size, fun i hi hn => (hg.block i (Nat.lt_of_lt_of_le hi h.size) (fun e => (hr i e.symm).elim hn (fun h2 => by omega))).trans (h.block i hi hn)⟩

end Go.Proofs.Ytekbecpcbfhdmaa.UpdWords
/- The contracts of the reader's take, number and cut: where the bytes are there they are taken off, else the call panics with the reader's own value; no condition but sizes that a string can have. -/
namespace Go.Proofs.Ytekbecpcbfhdmaa.Oct
open Go.RowKit Go.Proofs.YtekbecpcbfhdmaaW.PrintWords Go.Proofs.Ytekbecpcbfhdmaa.UpdWords

/-- What the reader panics with. -/
def short : List PanicEntry := [{ v := .iface 84 (.agg #[]), recovered := false }]
/-- A reader of b lies in block g. -/
def Rd (w : World) (g : Nat) (b : ByteArray) : Prop := w.heap[g]? = some (.cells #[.string b] 86 (0, 0))
theorem Rd.cell {w : World} {g : Nat} {b : ByteArray} (h : Rd w g b) : w.cell? ⟨g, 0, none⟩ = some (.string b) := blk_cell h 0
theorem Rd.free {w : World} {g : Nat} {b : ByteArray} (h : Rd w g b) : w.frozen? ⟨g, 0, none⟩ = false := blk_frozen h 0

set_option maxHeartbeats 400000 in
set_option maxRecDepth 100000 in
theorem take_ok (g : Nat) (b : ByteArray) (n : Int) (w : World) (hb : Rd w g b) (h0 : 0 ≤ n) (h1 : n ≤ b.size) (_hs : b.size ≤ maxLen) :
    Calls Try.prog 40 #[.pointer (some ⟨g, 0, none⟩), .int .i64 n] w fun e w' => e = .returned (.string (b.extract 0 n.toNat)) ∧ Rd w' g (b.extract n.toNat b.size) ∧ Upd (· = g) w w' := by
  have hc := hb.cell
  have hf := hb.free
  have hd : decide ((b.size : Int) < n) = false := decide_eq_false (by omega)
  go_enter Try.func40, Try.ntmps40
  go_wp2_with fail
  go_ret
  exact ⟨rfl, blk_set hb 0 _, (Upd.refl _ _).set g 0 _ (.inl rfl)⟩

set_option maxHeartbeats 400000 in
set_option maxRecDepth 100000 in
theorem take_short (g : Nat) (b : ByteArray) (n : Int) (w : World) (hb : Rd w g b) (h1 : (b.size : Int) < n) :
    Calls Try.prog 40 #[.pointer (some ⟨g, 0, none⟩), .int .i64 n] w fun e w' => e = .panicked short ∧ Upd (· = g) w w' := by
  have hc := hb.cell
  have hd : decide ((b.size : Int) < n) = true := decide_eq_true (by omega)
  go_enter Try.func40, Try.ntmps40
  go_wp2_with fail
  exact ⟨rfl, rfl, Upd.refl _ _⟩

/-- The number that bytes are. -/
def beN (l : List UInt8) : Nat := l.foldl (fun v c => v * 256 + c.toNat) 0
theorem beN_snoc (l : List UInt8) (c : UInt8) : beN (l ++ [c]) = beN l * 256 + c.toNat := by unfold beN; rw [List.foldl_append]; rfl
theorem beN_lt (l : List UInt8) : beN l < 256 ^ l.length := by
  have h : ∀ n, ∀ l : List UInt8, l.length = n → beN l < 256 ^ n := by
    intro n
    induction n with
    | zero => intro l hl; obtain rfl := List.eq_nil_of_length_eq_zero hl; simp [beN]
    | succ n ih =>
      intro l hl
      have hne : l ≠ [] := fun h => by subst h; simp at hl
      rw [← List.dropLast_concat_getLast hne, beN_snoc]
      have h1 := ih l.dropLast (by simp [hl])
      have h2 := UInt8.toNat_lt (l.getLast hne)
      rw [Nat.pow_succ]; omega
  exact h _ l rfl

theorem or_byte (v c : Nat) (hv : v < 2 ^ 56) (hc : c < 256) : Go.bits .or .u64 (IntKind.u64.wrap ((v : Int) * 256)) (c : Int) = ((v * 256 + c : Nat) : Int) := by
  have e : IntKind.u64.wrap ((v : Int) * 256) = ((v * 256 : Nat) : Int) := by rw [IntKind.wrap_u64]; omega
  rw [e, Go.u64_or_nat _ _ (by omega) (by omega)]
  congr 1
  have := Nat.two_pow_add_eq_or_of_lt (i := 8) (b := c) (by omega) v
  rw [Nat.mul_comm v 256, ← this]

theorem ext_size (b : ByteArray) (m : Nat) (h : m ≤ b.size) : (b.extract 0 m).size = m := by rw [ByteArray.size_extract]; omega
theorem ext_list (b : ByteArray) (m : Nat) : (b.extract 0 m).data.toList = b.data.toList.take m := by
  simp [ByteArray.data_extract]
theorem bytes_at (b : ByteArray) (m k : Nat) (h : m ≤ b.size) (hk : k < m) : (bytesOf (b.extract 0 m))[k]?.getD 0 = (((b.data.toList.getD k 0).toNat : Nat) : Int) := by
  have hl : b.data.toList.length = b.size := data_length b
  unfold bytesOf
  rw [ext_list, List.getElem?_map, List.getElem?_take, if_pos hk, List.getD_eq_getElem?_getD, List.getElem?_eq_getElem (by omega)]
  rfl
theorem beN_next (l : List UInt8) (k : Nat) (hk : k < l.length) (h8 : k < 8) : Go.bits .or .u64 (IntKind.u64.wrap ((beN (l.take k) : Int) * 256)) (IntKind.u64.wrap (((l.getD k 0).toNat : Nat) : Int)) = ((beN (l.take (k + 1)) : Nat) : Int) := by
  have hc := UInt8.toNat_lt (l.getD k 0)
  rw [show IntKind.u64.wrap (((l.getD k 0).toNat : Nat) : Int) = (((l.getD k 0).toNat : Nat) : Int) from by rw [IntKind.wrap_u64]; omega]
  have h1 := beN_lt (l.take k)
  have h2 : 256 ^ (l.take k).length ≤ 256 ^ 7 := Nat.pow_le_pow_right (by omega) (by rw [List.length_take]; omega)
  rw [or_byte _ _ (by omega) (UInt8.toNat_lt _), List.take_succ_eq_append_getElem hk, beN_snoc, List.getD_eq_getElem?_getD, List.getElem?_eq_getElem hk]
  rfl

theorem beN_nextB (b : ByteArray) (k : Nat) (hk : k < b.size) (h8 : k < 8) : Go.bits .or .u64 (IntKind.u64.wrap ((beN (b.data.toList.take k) : Int) * 256)) (IntKind.u64.wrap (((b.data[k]?.getD 0).toNat : Nat) : Int)) = ((beN (b.data.toList.take (k + 1)) : Nat) : Int) := by
  have h := beN_next b.data.toList k (by rw [data_length]; exact hk) h8
  rw [List.getD_eq_getElem?_getD, Array.getElem?_toList] at h
  exact h

set_option maxHeartbeats 400000 in
set_option maxRecDepth 100000 in
theorem number_ok (g : Nat) (b : ByteArray) (n : Int) (w : World) (hb : Rd w g b) (h0 : 0 ≤ n) (h8 : n ≤ 8) (h1 : n ≤ b.size) (hs : b.size ≤ maxLen) :
    Calls Try.prog 38 #[.pointer (some ⟨g, 0, none⟩), .int .i64 n] w fun e w' => e = .returned (.int .u64 (beN (b.data.toList.take n.toNat))) ∧ Rd w' g (b.extract n.toNat b.size) ∧ Upd (· = g) w w' := by
  obtain ⟨m, rfl⟩ := Int.eq_ofNat_of_zero_le h0
  have hl : b.data.toList.length = b.size := data_length b
  have HL := Lib.hid hl; clear hl
  rw [Int.toNat_natCast]
  have hm8 : m ≤ 8 := by omega
  have hmb : m ≤ b.size := by omega
  have kb := fun W => print_bytes (P := Try.prog) 9 44 5 Try.underlying9 Try.underlying44 Try.underlying5 (b.extract 0 m) W
  rw [ext_size b m hmb] at kb
  go_enter Try.func38, Try.ntmps38
  go_wp2_with fail
  refine (take_ok g b m w hb h0 h1 hs).mono ?_
  rw [Int.toNat_natCast]
  rintro e w1 ⟨rfl, hb1, hu1⟩
  go_wp2_with fail
  have hlt1 := blk_lt hb1
  go_loop [5, 13] (fun v i => ∃ k : Nat, k ≤ m ∧ i = .int .i64 k ∧ v = .int .u64 (beN (b.data.toList.take k))) (fun _ i => m - (intOf i).toNat)
  case atStart => exact ⟨0, Nat.zero_le _, rfl, rfl⟩
  case round =>
    obtain ⟨k, hk, rfl, rfl⟩ := hrel
    by_cases hlt : k < m
    · have hc := (bytes_reads w1 5 (b.extract 0 m) (by rw [ext_size b m hmb]; omega)).2.2
      rw [ext_size b m hmb] at hc
      obtain ⟨ad, e, hc⟩ := hc (by omega)
      obtain rfl := Option.some.inj e
      clear e
      have hc2 := hc k hlt
      clear hc
      rw [add_plain, List.getD_eq_getElem?_getD, bytes_at b m k hmb hlt] at hc2
      have HN := Lib.hid (beN_nextB b k (by omega) (by omega))
      go_wp2_with fail
      exact ⟨⟨k + 1, by omega, by go_num, by rw [HN.out]⟩, by simp [intOf]; omega⟩
    · obtain rfl : k = m := by omega
      go_wp2_with fail
      go_ret
      exact ⟨rfl, (Lib.bytesWorld_at_old _ _ _ _ hlt1).trans hb1, hu1.trans (Upd.of_below (S := fun _ => False) (bytes_below (Below.refl _ _) (Nat.le_refl _) _ _)) (fun _ h => h.elim)⟩

set_option maxHeartbeats 400000 in
set_option maxRecDepth 100000 in
theorem number_short (g : Nat) (b : ByteArray) (n : Int) (w : World) (hb : Rd w g b) (h1 : (b.size : Int) < n) :
    Calls Try.prog 38 #[.pointer (some ⟨g, 0, none⟩), .int .i64 n] w fun e w' => e = .panicked short ∧ Upd (· = g) w w' := by
  go_enter Try.func38, Try.ntmps38
  go_wp2_with fail
  refine (take_short g b n w hb h1).mono ?_
  rintro e w1 ⟨rfl, hu1⟩
  go_wp2_with fail
  exact ⟨rfl, rfl, hu1⟩

/-- What cut takes: the piece, and what is left. -/
def cutOf (b : ByteArray) (m : Nat) : Option (ByteArray × ByteArray) :=
  if m ≤ b.size then
    if beN (b.data.toList.take m) ≤ b.size - m then some (b.extract m (m + beN (b.data.toList.take m)), b.extract (m + beN (b.data.toList.take m)) b.size) else none
  else none
theorem ext_ext (b : ByteArray) (m k : Nat) (hm : m ≤ b.size) (hk : k ≤ b.size - m) : (b.extract m b.size).extract 0 k = b.extract m (m + k) ∧ (b.extract m b.size).extract k (b.size - m) = b.extract (m + k) b.size := by
  constructor
  · apply ByteArray.ext
    simp only [ByteArray.data_extract, Array.extract_extract]
    congr 1
    have : b.data.size = b.size := rfl
    omega
  · apply ByteArray.ext
    simp only [ByteArray.data_extract, Array.extract_extract]
    congr 1
    have : b.data.size = b.size := rfl
    omega
theorem drop_size (b : ByteArray) (m : Nat) : (b.extract m b.size).size = b.size - m := by rw [ByteArray.size_extract]; omega

set_option maxHeartbeats 400000 in
set_option maxRecDepth 100000 in
theorem cut_ok (g : Nat) (b : ByteArray) (n : Int) (w : World) (s r : ByteArray) (hb : Rd w g b) (h0 : 0 ≤ n) (h8 : n ≤ 4) (hs : b.size ≤ maxLen) (h : cutOf b n.toNat = some (s, r)) :
    Calls Try.prog 36 #[.pointer (some ⟨g, 0, none⟩), .int .i64 n] w fun e w' => e = .returned (.string s) ∧ Rd w' g r ∧ Upd (· = g) w w' := by
  obtain ⟨m, rfl⟩ := Int.eq_ofNat_of_zero_le h0
  rw [Int.toNat_natCast] at h
  unfold cutOf at h
  by_cases h1 : m ≤ b.size
  · rw [if_pos h1] at h
    by_cases h2 : beN (b.data.toList.take m) ≤ b.size - m
    · rw [if_pos h2] at h
      simp only [Option.some.injEq, Prod.mk.injEq] at h
      obtain ⟨rfl, rfl⟩ := h
      have h3 := Lib.hid h2
      have hd := drop_size b m
      have HD := Lib.hid hd; clear hd
      have HE := Lib.hid (ext_ext b m _ h1 h2)
      have hz : decide (IntKind.u64.wrap ((b.size - m : Nat) : Int) < (beN (b.data.toList.take m) : Int)) = false := by
        unfold maxLen at hs
        rw [IntKind.wrap_u64]; exact decide_eq_false (by omega)
      have hq : (beN (b.data.toList.take m) : Int) ≤ 9223372036854775807 := by unfold maxLen at hs; omega
      go_enter Try.func36, Try.ntmps36
      go_wp2_with fail
      refine (number_ok g b m w hb h0 (by omega) (by omega) hs).mono ?_
      rw [Int.toNat_natCast]
      rintro e w1 ⟨rfl, hb1, hu1⟩
      have hc := hb1.cell
      go_wp2_with fail
      refine (take_ok g (b.extract m b.size) _ w1 hb1 (by omega) (by rw [HD.out]; have := h3.out; omega) (by rw [HD.out]; unfold maxLen at hs ⊢; omega)).mono ?_
      rw [Int.toNat_natCast]
      rintro e w2 ⟨rfl, hb2, hu2⟩
      rw [HD.out, HE.out.2] at hb2
      go_wp2_with fail
      go_ret
      exact ⟨by rw [HE.out.1]; rfl, hb2, hu1.trans hu2 (fun _ h => .inl h)⟩
    · rw [if_neg h2] at h; cases h
  · rw [if_neg h1] at h; cases h

set_option maxHeartbeats 400000 in
set_option maxRecDepth 100000 in
theorem cut_short (g : Nat) (b : ByteArray) (n : Int) (w : World) (hb : Rd w g b) (h0 : 0 ≤ n) (h8 : n ≤ 4) (hs : b.size ≤ maxLen) (h : cutOf b n.toNat = none) :
    Calls Try.prog 36 #[.pointer (some ⟨g, 0, none⟩), .int .i64 n] w fun e w' => e = .panicked short ∧ Upd (· = g) w w' := by
  obtain ⟨m, rfl⟩ := Int.eq_ofNat_of_zero_le h0
  rw [Int.toNat_natCast] at h
  unfold cutOf at h
  by_cases h1 : m ≤ b.size
  · rw [if_pos h1] at h
    by_cases h2 : beN (b.data.toList.take m) ≤ b.size - m
    · rw [if_pos h2] at h; cases h
    · have h3 := Lib.hid h2
      have hd := drop_size b m
      have HD := Lib.hid hd; clear hd
      have hz : decide (IntKind.u64.wrap ((b.size - m : Nat) : Int) < (beN (b.data.toList.take m) : Int)) = true := by
        unfold maxLen at hs
        rw [IntKind.wrap_u64]; exact decide_eq_true (by omega)
      go_enter Try.func36, Try.ntmps36
      go_wp2_with fail
      refine (number_ok g b m w hb h0 (by omega) (by omega) hs).mono ?_
      rw [Int.toNat_natCast]
      rintro e w1 ⟨rfl, hb1, hu1⟩
      have hc := hb1.cell
      go_wp2_with fail
      exact ⟨rfl, rfl, hu1⟩
  · go_enter Try.func36, Try.ntmps36
    go_wp2_with fail
    refine (number_short g b m w hb (by omega)).mono ?_
    rintro e w1 ⟨rfl, hu1⟩
    go_wp2_with fail
    exact ⟨rfl, rfl, hu1⟩

end Go.Proofs.Ytekbecpcbfhdmaa.Oct
namespace Go.Proofs.Ytekbecpcbfhdmaa.Oct
open Go.RowKit Go.Proofs.YtekbecpcbfhdmaaW.PrintWords
set_option linter.unusedVariables false
set_option linter.unusedSimpArgs false

/-- A number's bytes, the greatest first. -/
def beB : Nat → Nat → List UInt8
  | 0, _ => []
  | n + 1, v => beB n (v / 256) ++ [UInt8.ofNat (v % 256)]
theorem beB_len : ∀ n v, (beB n v).length = n
  | 0, _ => rfl
  | n + 1, v => by rw [beB, List.length_append, beB_len n]; rfl
theorem byte_mod (v : Nat) : (UInt8.ofNat (v % 256)).toNat = v % 256 := by simp
theorem beN_beB : ∀ n v, beN (beB n v) = v % 256 ^ n
  | 0, v => by simp [beB, beN, Nat.mod_one]
  | n + 1, v => by
    rw [beB, beN_snoc, beN_beB n, byte_mod, Nat.pow_succ, Nat.mul_comm (256 ^ n) 256, Nat.mod_mul]
    omega
theorem beB_front : ∀ n v, beB (n + 1) v = UInt8.ofNat (v / 256 ^ n % 256) :: beB n v
  | 0, v => by simp [beB]
  | n + 1, v => by
    rw [beB, beB_front n (v / 256), beB, Nat.div_div_eq_div_mul, Nat.pow_succ, Nat.mul_comm 256]; rfl
theorem beN_app (l m : List UInt8) : beN (l ++ m) = beN l * 256 ^ m.length + beN m := by
  induction m generalizing l with
  | nil => simp [beN]
  | cons c m ih =>
    have h1 := ih (l ++ [c])
    have h2 := ih [c]
    rw [List.append_assoc] at h1
    rw [show l ++ c :: m = l ++ ([c] ++ m) from rfl, h1, show c :: m = [c] ++ m from rfl, h2, beN_snoc]
    simp only [List.length_append, List.length_cons, List.length_nil, Nat.pow_add, Nat.pow_succ, Nat.pow_zero, Nat.one_mul, beN, List.foldl]
    rw [Nat.add_mul, Nat.mul_assoc]
    rw [show 0 * 256 + c.toNat = c.toNat from by omega]
    omega
theorem u8_of (c : UInt8) : UInt8.ofNat (c.toNat % 256) = c := by
  apply UInt8.toNat_inj.mp; simp
theorem beB_beN : ∀ (n : Nat) (l : List UInt8), l.length = n → beB n (beN l) = l := by
  intro n
  induction n with
  | zero => intro l h; cases l with | nil => rfl | cons _ _ => simp at h
  | succ n ih =>
    intro l h
    have h0 : l ≠ [] := by intro h'; rw [h'] at h; simp at h
    have hd := List.dropLast_concat_getLast h0
    generalize l.getLast h0 = c at hd
    generalize hm : l.dropLast = m at hd
    have hl : m.length = n := by rw [← hm, List.length_dropLast]; omega
    rw [← hd, beN_snoc, beB]
    have := UInt8.toNat_lt c
    rw [show (beN m * 256 + c.toNat) / 256 = beN m from by omega, ih m hl, show (beN m * 256 + c.toNat) % 256 = c.toNat % 256 from by omega, u8_of]
theorem beB_fits {n v : Nat} : beN (beB n v) = v ↔ v < 256 ^ n := by
  rw [beN_beB]
  constructor
  · intro h; rw [← h]; exact Nat.mod_lt _ (Nat.pow_pos (by omega))
  · exact Nat.mod_eq_of_lt

/-- Bytes as a string. -/
def arr (l : List UInt8) : ByteArray := ⟨l.toArray⟩
theorem arr_size (l : List UInt8) : (arr l).size = l.length := by simp [arr, ByteArray.size]
theorem arr_list (l : List UInt8) : (arr l).data.toList = l := by simp [arr]
theorem arr_of (b : ByteArray) : arr b.data.toList = b := by apply ByteArray.ext; simp [arr]
theorem arr_inj {l m : List UInt8} (h : arr l = arr m) : l = m := by rw [← arr_list l, h, arr_list]
theorem list_inj {a b : ByteArray} (h : a.data.toList = b.data.toList) : a = b := by rw [← arr_of a, h, arr_of]
theorem app_list (a b : ByteArray) : (a ++ b).data.toList = a.data.toList ++ b.data.toList := by rw [ByteArray.data_append, Array.toList_append]
theorem arr_app (l m : List UInt8) : arr l ++ arr m = arr (l ++ m) := by
  apply list_inj; rw [app_list, arr_list, arr_list, arr_list]
theorem size_list (b : ByteArray) : b.data.toList.length = b.size := by simp
theorem drop_list (b : ByteArray) (m : Nat) : (b.extract m b.size).data.toList = b.data.toList.drop m := by
  rw [ByteArray.data_extract, Array.toList_extract, List.extract_eq_take_drop]
  rw [List.take_of_length_le (by rw [List.length_drop, size_list]; omega)]
theorem mid_list (b : ByteArray) (m k : Nat) : (b.extract m (m + k)).data.toList = (b.data.toList.drop m).take k := by
  rw [ByteArray.data_extract, Array.toList_extract, List.extract_eq_take_drop]
  rw [show m + k - m = k from by omega]
/-- The bytes' numbers, as a slice of bytes holds them. -/
def bnums (l : List UInt8) : List Int := l.map fun c => (c.toNat : Int)
theorem str_bnums (l : List UInt8) : strOfNums (bnums l) = arr l := by
  unfold strOfNums bnums arr
  rw [List.map_map]
  congr 2
  have : (fun n : Int => UInt8.ofNat n.toNat) ∘ (fun c : UInt8 => (c.toNat : Int)) = id := by
    funext c; simp
  rw [this, List.map_id]
theorem bnums_app (l m : List UInt8) : bnums (l ++ m) = bnums l ++ bnums m := by simp [bnums]
theorem bnums_len (l : List UInt8) : (bnums l).length = l.length := by simp [bnums]

theorem take_size (b : ByteArray) (m : Nat) (h : m ≤ b.size) : (b.data.toList.take m).length = m := by rw [List.length_take, size_list]; omega
/-- A piece of some bytes. -/
def pieceB (m : Nat) (s : ByteArray) : ByteArray := arr (beB m s.size) ++ s
theorem piece_list (m : Nat) (s : ByteArray) : (pieceB m s).data.toList = beB m s.size ++ s.data.toList := by unfold pieceB; rw [app_list, arr_list]
/-- A piece and what follows it, cut. -/
theorem cut_piece (m : Nat) (s r : ByteArray) (h : s.size < 256 ^ m) : cutOf (pieceB m s ++ r) m = some (s, r) := by
  have h0 : (pieceB m s ++ r).data.toList = beB m s.size ++ (s.data.toList ++ r.data.toList) := by rw [app_list, piece_list, List.append_assoc]
  have hs : (pieceB m s ++ r).size = m + s.size + r.size := by rw [← size_list, h0]; simp only [List.length_append, beB_len, size_list]; omega
  have ht : (pieceB m s ++ r).data.toList.take m = beB m s.size := by rw [h0, List.take_left' (beB_len _ _)]
  unfold cutOf
  rw [if_pos (by omega), ht, beN_beB, Nat.mod_eq_of_lt h, if_pos (by omega)]
  congr 2
  · apply list_inj
    rw [mid_list, h0, List.drop_left' (beB_len _ _), List.take_left' (size_list _)]
  · apply list_inj
    rw [drop_list, h0, List.drop_append, beB_len, List.drop_of_length_le (by rw [beB_len]; omega), List.nil_append, List.drop_append, size_list, List.drop_of_length_le (by rw [size_list]; omega), List.nil_append, show m + s.size - m - s.size = 0 from by omega, List.drop_zero]

end Go.Proofs.Ytekbecpcbfhdmaa.Oct
/- The packer's small methods: New, Raw, Len, Bytes. -/
namespace Go.Proofs.Ytekbecpcbfhdmaa.Pack
open Go.RowKit Go.Proofs.YtekbecpcbfhdmaaW.PrintWords Go.Proofs.Ytekbecpcbfhdmaa.BytesWords Go.Proofs.Ytekbecpcbfhdmaa.Oct
set_option linter.unusedVariables false
/-- What has turned of a packer behind a step. -/
structure Stepped (lo p mb : Nat) (g : Option Nat) (bs' : List UInt8) (K' : List (ByteArray × Nat)) (w w' : World) : Prop where
  pk : ∃ g', Pk lo p mb g' bs' K' w' ∧ (∀ k, g' = some k → g = some k ∨ w.heap.size ≤ k)
  touch : Touch (Own p mb g) w w'
theorem Touch.alloc {S : Nat → Prop} (w : World) (o : Obj) : Touch S w (w.alloc o) := Touch.of_grown (World.grownBy_alloc w o none) (by simp)
set_option maxRecDepth 100000 in
theorem Raw (lo p mb : Nat) (g : Option Nat) (K : List (ByteArray × Nat)) (bs : List UInt8) (s : ByteArray) (w : World) (h : Pk lo p mb g bs K w) (hlen : bs.length + s.size ≤ 1000000) (hBw : lo ≤ w.heap.size) :
    Calls Try.prog 11 #[.pointer (some ⟨p, 0, none⟩), .string s] w fun e w' => e = .returned (.tuple #[]) ∧ Stepped lo p mb g (bs ++ s.data.toList) K w w' := by
  have H := Lib.hid h
  obtain ⟨lop, lom, ltp, ⟨v, hv, hb, hown⟩, hmap⟩ := h
  obtain ⟨i0, hi, hz0, hz1, hz2⟩ := info_u8'
  have c0 : w.cell? ⟨p, 0, none⟩ = some v := Lib.cell_of_heap hb 0
  have HB := Lib.hid hb
  have HO := Lib.hid hown
  have HM := Lib.hid hmap
  have HV := Lib.hid hv
  clear hb hown hmap hv
  go_enter Try.func11, Try.ntmps11
  go_wp2_with (at_builtin; refine wpList_append_str _ rfl _ _ 44 9 rfl lo 5 i0 Try.underlying44 Try.underlying9 hi hz0 hz1 hz2 v bs.length (Lib.byteCells bs) rfl HO.out s rfl (by unfold maxLen; omega) (by omega) hBw ?_)
  intro v' w' ho hg hloc
  have hne : v.ownBlock ≠ some p := by
    intro e
    rcases HO.out.2 with ⟨rfl, _⟩ | ⟨g0, cap, cur, rfl, hl, hh, r⟩
    · cases e
    · simp only [Value.ownBlock, Option.some.injEq] at e
      subst e
      rw [HB.out] at hh; simp at hh
  have hb' : w'.heap[p]? = some (.cells #[v, .map (some mb)] 49 (0, 0)) := (hg.block p ltp (fun e => hne e.symm)).trans HB.out
  have hne' : v'.ownBlock ≠ some p := by
    intro e
    rcases ho.2 with ⟨rfl, _⟩ | ⟨g0, cap, cur, rfl, hl, hh, r⟩
    · cases e
    · simp only [Value.ownBlock, Option.some.injEq] at e
      subst e
      rw [hb'] at hh; simp at hh
  obtain ⟨c2, a2, n2, rfl⟩ : ∃ c a n, v' = .slice a n c := by
    rcases ho.2 with ⟨rfl, h0⟩ | ⟨g0, cap, cur, rfl, hl, hh, r⟩
    · exact ⟨0, none, 0, rfl⟩
    · exact ⟨_, _, _, rfl⟩
  have c1 : w'.cell? ⟨p, 0, none⟩ = some v := Lib.cell_of_heap hb' 0
  have f1 : w'.frozen? ⟨p, 0, none⟩ = false := Lib.frozen_of_heap hb' 0
  have HB' := Lib.hid hb'
  have HO' := Lib.hid ho
  have HG := Lib.hid hg
  have HL := Lib.hid hloc
  clear hb' ho hg hloc
  go_wp2_with fail
  go_end0
  have hOwn : ∀ k, Own p mb g k → k < w.heap.size := fun k hk => H.out.own_lt k hk
  have hT : Touch (Own p mb g) w (w'.setCell ⟨p, 0, none⟩ (.slice a2 n2 c2)) := (Touch.of_grown HG.out (fun k hk => .inr (.inr (HV.out ▸ hk)))).trans (Touch.setCell (S := fun k => k = p) rfl (.slice a2 n2 c2)) (fun k _ hk => .inl hk)
  have hmp : mb ≠ p := by
    rintro rfl
    obtain ⟨D, _, es, clock, hm, _⟩ := HM.out
    rw [HB.out] at hm; simp at hm
  have hmv : v.ownBlock ≠ some mb := by
    intro e
    obtain ⟨D, _, es, clock, hm, _⟩ := HM.out
    rcases HO.out.2 with ⟨rfl, _⟩ | ⟨g0, cap, cur, rfl, hl, hh, r⟩
    · cases e
    · simp only [Value.ownBlock, Option.some.injEq] at e
      subst e
      rw [hm] at hh; simp at hh
  refine ⟨rfl, ⟨(Value.slice a2 n2 c2).ownBlock, ⟨lop, lom, Nat.lt_of_lt_of_le ltp hT.size, ⟨_, rfl, ?_, ?_⟩, ?_⟩, ?_⟩, hT⟩
  · have := HB'.out
    simp [World.setCell, Array.getElem?_modify, this]
  · have e : (bs ++ s.data.toList).length = bs.length + s.size := by simp
    rw [e, ← cells_str]
    exact row_touch HO'.out (Touch.setCell (S := fun k => k = p) rfl (.slice a2 n2 c2)) (fun k hk e => hne' (e ▸ hk))
  · refine (HM.out.kept (S := fun k => v.ownBlock = some k) (Touch.of_grown HG.out (fun k hk => hk)) hmv).kept (S := fun k => k = p) (Touch.setCell (S := fun k => k = p) rfl (.slice a2 n2 c2)) hmp
  · intro k hk
    rcases HL.out with e | e
    · exact .inl (HV.out ▸ e ▸ hk)
    · rw [hk] at e; injection e with e; exact .inr (by omega)

set_option maxRecDepth 100000 in
theorem Len (lo p mb : Nat) (g : Option Nat) (K : List (ByteArray × Nat)) (bs : List UInt8) (w : World) (h : Pk lo p mb g bs K w) :
    Calls Try.prog 15 #[.pointer (some ⟨p, 0, none⟩)] w fun e w' => e = .returned (.int .i64 (bs.length : Int)) ∧ w = w' := by
  obtain ⟨lop, lom, ltp, ⟨v, hv, hb, hown⟩, hmap⟩ := h
  obtain ⟨c, a, rfl⟩ : ∃ c a, v = .slice a bs.length c := by
    rcases hown.2 with ⟨rfl, h0⟩ | ⟨g0, cap, cur, rfl, hl, hh, r⟩
    · exact ⟨0, none, by rw [h0]⟩
    · exact ⟨_, _, rfl⟩
  have c0 : w.cell? ⟨p, 0, none⟩ = some (.slice a bs.length c) := Lib.cell_of_heap hb 0
  clear hb hown hmap hv
  go_enter Try.func15, Try.ntmps15
  go_wp2_with fail
  go_ret
  exact ⟨rfl, rfl⟩

theorem cells_nums (bs : List UInt8) : Lib.byteCells bs = (bnums bs).map (Value.int .u8) := by simp [Lib.byteCells, bnums]
theorem bnums_length (l : List UInt8) : (bnums l).length = l.length := by simp [bnums]
set_option maxRecDepth 100000 in
theorem Bytes (lo p mb : Nat) (g : Option Nat) (K : List (ByteArray × Nat)) (bs : List UInt8) (w : World) (h : Pk lo p mb g bs K w) (hl : bs.length ≤ 1000000) :
    Calls Try.prog 16 #[.pointer (some ⟨p, 0, none⟩)] w fun e w' => e = .returned (.string (Oct.arr bs)) ∧ w = w' := by
  obtain ⟨lop, lom, ltp, ⟨v, hv, hb, hown⟩, hmap⟩ := h
  obtain ⟨c, a, hR, rfl⟩ : ∃ c a, ReadsInt w .u8 a bs.length (bnums bs) ∧ v = .slice a bs.length c := by
    rcases hown.2 with ⟨rfl, h0⟩ | ⟨g0, cap, cur, rfl, hlo, hh, r⟩
    · exact ⟨0, none, ⟨bnums_length _, by omega, fun h => by omega⟩, by rw [h0]⟩
    · refine ⟨_, _, ⟨bnums_length _, by omega, fun _ => ⟨_, rfl, fun j hj => ?_⟩⟩, rfl⟩
      refine hown.cells (g := g0) rfl j _ ?_
      rw [cells_nums, List.getElem?_map, List.getElem?_eq_getElem (by rw [bnums_length]; exact hj), List.getD_eq_getElem?_getD, List.getElem?_eq_getElem (by rw [bnums_length]; exact hj)]
      rfl
  have c0 : w.cell? ⟨p, 0, none⟩ = some (.slice a bs.length c) := Lib.cell_of_heap hb 0
  have kc := string_of_reads (P := Try.prog) (c := c) Try.underlying44 Try.underlying5 Try.underlying9 hR
  rw [Oct.str_bnums] at kc
  clear hb hown hmap hv hR
  go_enter Try.func16, Try.ntmps16
  go_wp2_with fail
  go_ret
  exact ⟨rfl, rfl⟩

set_option maxRecDepth 100000 in
theorem New (lo : Nat) (w : World) (hlo : lo ≤ w.heap.size) :
    Calls Try.prog 10 #[] w fun e w' => ∃ p mb, e = .returned (.pointer (some ⟨p, 0, none⟩)) ∧ Pk lo p mb none [] [] w' ∧ w.heap.size ≤ p ∧ w.heap.size ≤ mb ∧ Below w.heap.size w w' := by
  have hmm := @run_makeMap Try.prog
  go_enter Try.func10, Try.ntmps10
  go_wp2_with fail
  go_ret
  have h1 := World.ownsMap_made (H := Unit) w Try.prog 9 (plainElem Try.prog 3)
  have hs : (w.alloc (.map #[] 0)).heap.size = w.heap.size + 1 := by simp
  have h2 := h1.alloc (.cells #[.slice none 0 0, .map (some w.heap.size)] 49)
  refine ⟨w.heap.size + 1, w.heap.size, rfl, ⟨by omega, hlo, by simp, ⟨.slice none 0 0, rfl, ?_, World.ownsRow_nil _ _ _ _⟩, ⟨_, says_nil, h2⟩⟩, by omega, Nat.le_refl _, ((Below.refl _ w).alloc (Nat.le_refl _) _).alloc (by simp) _⟩
  have := heap_alloc_new (w.alloc (.map #[] 0)) (.cells #[.slice none 0 0, .map (some w.heap.size)] 49)
  rw [hs] at this
  exact this
end Go.Proofs.Ytekbecpcbfhdmaa.Pack
/- A range over an iterator that turns one box of its own (a captured variable): the statement's law, over the library's steps (the record's laying, a round's begin and end, the loop's end). -/
namespace Go.Proofs.Ytekbecpcbfhdmaa.Box
open Go.RowKit

/-- What an iterator whose one own box is the block Bn gives: the list L, or a part of it where a round has said 'no more'; whatever abides new blocks and a turn of that box goes through. -/
def Stops {α : Type} (P : Program) (n gf : Nat) (lb : Array Value) (encs : α → Array Value) (Bn : Nat) (L : List α) (w : World) : Prop :=
  ∀ (l : Nat) (J Jx : List α → World → Prop) (W : World), W.heap[Bn]? = w.heap[Bn]? →
    (∀ s A B row, J s A → A.grownBy B row → (row = none ∨ row = some Bn) → J s B) →
    (∀ pre x W1, J pre W1 → pre ++ [x] <+: L → YieldAt Fence.wide (n - 1) P l (encs x) W1 fun e W' =>
      (e = .returned (.bool true) ∧ J (pre ++ [x]) W' ∧ W'.heap[Bn]? = W1.heap[Bn]?) ∨ (e = .returned (.bool false) ∧ Jx (pre ++ [x]) W')) →
    J [] W →
    CallsIn Fence.wide n P gf (#[.func (.yield l) #[] #[]] ++ lb) W fun e W' => (∃ v, e = .returned v) ∧ (J L W' ∨ ∃ pre, pre <+: L ∧ Jx pre W')

/-- How a round's body may be left. -/
def Left {α : Type} (Bn : Nat) (I : List α → World → Prop) (Ix : Code → List α → World → Prop) (xs : List α) (W : World) : Exit → Act → World → Prop
  | .normal, _, W' => KeepsOthers W W' ∧ W'.heap[Bn]? = W.heap[Bn]? ∧ I xs W'
  | .ret, _, W' => KeepsOthers W W' ∧ Ix .ret xs W'
  | .exit id, _, W' => KeepsOthers W W' ∧ Ix (.exit id) xs W'
  | .goto t, _, W' => KeepsOthers W W' ∧ Ix (.goto t) xs W'
  | .panic _, _, _ => False
  | .outgrown, _, _ => False

/-- The turns that a caller's invariant must abide: new blocks, the box, and what is no cells and was laid since the loop began. -/
def Abide {β : Type} (n0 Bn : Nat) (I : β → World → Prop) : Prop :=
  ∀ s A B row, I s A → A.grownBy B row → (∀ r, row = some r → r = Bn ∨ (n0 ≤ r ∧ ∃ o : Obj, A.heap[r]? = some o ∧ o.isCells = false)) → I s B
theorem Abide.put {β : Type} {n0 Bn : Nat} {I : β → World → Prop} (h : Abide n0 Bn I) {s : β} {W : World} {l : Nat} {o o' : Obj} (hs : I s W) (hl : n0 ≤ l) (ho : W.heap[l]? = some o) (hc : o.isCells = false) : I s (W.putObj l o') :=
  h s W _ (some l) hs (grownBy_putObj' W l o') (fun r e => by cases e; exact .inr ⟨hl, o, ho, hc⟩)
theorem Abide.alloc {β : Type} {n0 Bn : Nat} {I : β → World → Prop} (h : Abide n0 Bn I) {s : β} {W : World} (o : Obj) (hs : I s W) : I s (W.alloc o) :=
  h s W _ none hs (World.grownBy_alloc W o none) (fun r e => by cases e)

theorem rangeFunc {α : Type} {P : Program} {n : Nat} {g : Operand} {ps : Array Tmp} {assign body : Code} {Q : Exit → Act → World → Prop} {a : Act} {w : World} {gf : Nat} {lb : Array Value}
    (hg : a.eval g = .func (.func gf) #[] lb) (eg : ∀ args w, (callFunc gf args).run P w = .ok (.enter gf args) w)
    {encs : α → Array Value} (hps : ∀ x, (encs x).size = ps.size) {Bn : Nat} (hBn : Bn < w.heap.size) {L : List α} (hseq : Stops P (n - 1) gf lb encs Bn L w)
    (I : List α → World → Prop) (Ix : Code → List α → World → Prop) (hI : Abide w.heap.size Bn I) (hIx : ∀ c, Abide w.heap.size Bn (Ix c)) (h0 : I [] w) (a₁ : α → Act)
    (hassign : ∀ (l : Nat) (x : α) (W : World) (K : Act → World → Prop), K (a₁ x) W →
      assign.wpIn (Fence.wide.inRound l) (n - 1 - 1) P (Exit.then K (fun _ _ _ => False)) { tmps := (ps.zip (encs x)).foldl (fun t (p, v) => t.setIfInBounds p v) a.tmps, defers := [] } W)
    (hbody : ∀ (l : Nat) (pre : List α) (x : α) (W : World), I pre W → pre ++ [x] <+: L → body.wpIn (Fence.wide.inRound l) (n - 1 - 1) P (Left Bn I Ix (pre ++ [x]) W) (a₁ x) W)
    (hdone : ∀ (D : Nat) (W : World), w.heap.size ≤ D → I L W → W.heap[D]? = some (.deferred (some [])) → Q .normal { a with defers := { target := .collected D, args := #[] } :: a.defers } W)
    (hstop : ∀ (D : Nat) (c : Code) (pre : List α) (W : World), w.heap.size ≤ D → pre <+: L → Ix c pre W → W.heap[D]? = some (.deferred (some [])) → c.wpIn Fence.wide n P Q { a with defers := { target := .collected D, args := #[] } :: a.defers } W) :
    (Code.rangeFunc g ps assign body).wpIn Fence.wide n P Q a w := by
  refine wpIn_rangeFunc ?_
  intro fn hfn
  let rc : LoopState → Option Code → Obj := fun st pe => .loop { state := st, pending := pe, fn, tmps := a.tmps, params := ps, assign, body, defers := w.heap.size }
  have hrc : rc = fun st pe => .loop { state := st, pending := pe, fn, tmps := a.tmps, params := ps, assign, body, defers := w.heap.size } := rfl
  clear_value rc
  obtain ⟨V, hV⟩ : ∃ V, (w.alloc (.deferred (some []))).alloc (rc .ready none) = V := ⟨_, rfl⟩
  have v1 : V.heap[w.heap.size + 1]? = some (rc .ready none) := by
    rw [← hV]; have := World.alloc_heap_new (w.alloc (.deferred (some []))) (rc .ready none); rwa [World.size_alloc] at this
  have v2 : V.heap[w.heap.size]? = some (.deferred (some [])) := by
    rw [← hV]; exact (Below.heap_alloc _ _ _ (by simp)).trans (World.alloc_heap_new w _)
  have v3 : I [] V := by rw [← hV]; exact hI.alloc _ (hI.alloc _ h0)
  have v4 : V.heap[Bn]? = w.heap[Bn]? := by
    rw [← hV]; exact (Below.heap_alloc _ _ _ (by simp; omega)).trans (Below.heap_alloc _ _ _ hBn)
  refine ⟨w.heap.size + 1, [{ target := .collected w.heap.size, args := #[] }], V, { target := .fn (.func gf) lb, args := #[.func (.yield (w.heap.size + 1)) #[] #[]] }, V, gf,
    #[.func (.yield (w.heap.size + 1)) #[] #[]] ++ lb, V, ?_, ?_, ?_, ?_, fun h => absurd h (by simp [Fence.wide]), ?_⟩
  · rw [← hV, hrc]; exact run_enterLoop_outer _ _ _ _ _
  · simp only [resolve, hg]
    simp [go_sem]
  · intro f' _; trivial
  · simp [invoke, go_sem, eg]
  · have keep : ∀ {A B : World} {row : Option Nat} {k : Nat}, A.grownBy B row → (row = none ∨ row = some Bn) → w.heap.size ≤ k → k < A.heap.size → B.heap[k]? = A.heap[k]? := fun hg' hr hk hlt =>
      hg'.block _ hlt (fun e => by rcases hr with h | h <;> rw [h] at e <;> cases e; omega)
    have lt_of : ∀ {A : World} {k : Nat} {o : Obj}, A.heap[k]? = some o → k < A.heap.size := fun h => (Array.getElem?_eq_some_iff.1 h).1
    refine (hseq (w.heap.size + 1)
      (fun pre W => I pre W ∧ W.heap[w.heap.size + 1]? = some (rc .ready none) ∧ W.heap[w.heap.size]? = some (.deferred (some [])))
      (fun pre W => ∃ c, Ix c pre W ∧ W.heap[w.heap.size + 1]? = some (rc .done (some c)) ∧ W.heap[w.heap.size]? = some (.deferred (some [])))
      V v4
      (fun s A B row hs hg' hr => ⟨hI s A B row hs.1 hg' (fun r e => by rcases hr with h | h <;> rw [h] at e <;> cases e; exact .inl rfl), (keep hg' hr (by omega) (lt_of hs.2.1)).trans hs.2.1, (keep hg' hr (by omega) (lt_of hs.2.2)).trans hs.2.2⟩)
      ?_ ⟨v3, v1, v2⟩).mono ?_
    · rintro pre x W ⟨hi, hl, hk⟩ hpre
      have hl' := hl
      rw [hrc] at hl'
      refine ⟨fn, _, assign, body, run_yield (P := P) (args := encs x) hl' (hps x), roundIn_of_wpIn hfn (hassign _ x W _ ⟨_, run_beginRound hl' rfl, ?_⟩)⟩
      obtain ⟨U, hU⟩ : ∃ U, W.putObj (w.heap.size + 1) (rc .busy none) = U := ⟨_, rfl⟩
      have u1 : U.heap[w.heap.size + 1]? = some (rc .busy none) := by rw [← hU]; exact World.putObj_heap_same (lt_of hl)
      have u2 : U.heap[w.heap.size]? = some (.deferred (some [])) := by rw [← hU]; exact (World.putObj_heap_other (by omega)).trans hk
      have u3 : I pre U := by rw [← hU]; exact hI.put hi (by omega) hl (by rw [hrc]; rfl)
      have u4 : U.heap[Bn]? = W.heap[Bn]? := by rw [← hU]; exact World.putObj_heap_other (by omega)
      have hU' : W.putObj (w.heap.size + 1) (.loop { state := .busy, pending := none, fn, tmps := a.tmps, params := ps, assign, body, defers := w.heap.size }) = U := by rw [← hU, hrc]
      show body.wpIn _ _ _ _ _ (W.putObj (w.heap.size + 1) (.loop { state := .busy, pending := none, fn, tmps := a.tmps, params := ps, assign, body, defers := w.heap.size }))
      rw [hU']
      refine wpIn_mono (hbody _ pre x U u3 hpre) ?_
      have fin : ∀ (jump : Option Code) (W3 : World), KeepsOthers U W3 → ∃ W4, (Instr.endRound (w.heap.size + 1) jump).run P W3 = .ok (.bool jump.isNone) W4 ∧ W4 = W3.putObj (w.heap.size + 1) (rc (if jump.isNone then .ready else .done) jump) ∧
          W3.heap[w.heap.size + 1]? = some (rc .busy none) ∧ W4.heap[w.heap.size + 1]? = some (rc (if jump.isNone then .ready else .done) jump) ∧ W4.heap[w.heap.size]? = some (.deferred (some [])) ∧ W4.heap[Bn]? = W3.heap[Bn]? := fun jump W3 hk3 => by
        have hl3 := hk3.same _ _ u1 (by rw [hrc]; rfl)
        have hl4 := hl3
        rw [hrc] at hl4
        refine ⟨_, run_endRound (P := P) jump hl4, by rw [hrc], hl3, ?_, ?_, World.putObj_heap_other (by omega)⟩
        · rw [World.putObj_heap_same (lt_of hl3), hrc]
        · exact (World.putObj_heap_other (by omega)).trans (hk3.same _ _ u2 rfl)
      rintro e a3 W3 hp
      cases e with
      | normal =>
        obtain ⟨hk3, hkp3, hi3⟩ := hp
        obtain ⟨W4, hr, e4, hl3, hl4, hk4, hb4⟩ := fin none W3 hk3
        exact ⟨_, _, hr, .inl ⟨rfl, ⟨by rw [e4]; exact hI.put hi3 (by omega) hl3 (by rw [hrc]; rfl), hl4, hk4⟩, hb4.trans (hkp3.trans u4)⟩⟩
      | ret =>
        obtain ⟨hk3, hi3⟩ := hp
        obtain ⟨W4, hr, e4, hl3, hl4, hk4, hb4⟩ := fin (some .ret) W3 hk3
        exact ⟨_, _, hr, .inr ⟨rfl, .ret, by rw [e4]; exact (hIx _).put hi3 (by omega) hl3 (by rw [hrc]; rfl), hl4, hk4⟩⟩
      | exit id =>
        obtain ⟨hk3, hi3⟩ := hp
        obtain ⟨W4, hr, e4, hl3, hl4, hk4, hb4⟩ := fin (some (.exit id)) W3 hk3
        exact ⟨_, _, hr, .inr ⟨rfl, .exit id, by rw [e4]; exact (hIx _).put hi3 (by omega) hl3 (by rw [hrc]; rfl), hl4, hk4⟩⟩
      | goto t =>
        obtain ⟨hk3, hi3⟩ := hp
        obtain ⟨W4, hr, e4, hl3, hl4, hk4, hb4⟩ := fin (some (.goto t)) W3 hk3
        exact ⟨_, _, hr, .inr ⟨rfl, .goto t, by rw [e4]; exact (hIx _).put hi3 (by omega) hl3 (by rw [hrc]; rfl), hl4, hk4⟩⟩
      | panic ch => exact hp.elim
      | outgrown => exact hp.elim
    · rintro e W2 ⟨⟨v, rfl⟩, (⟨hi, hl, hk⟩ | ⟨pre, hpre, c, hi, hl, hk⟩)⟩
      · have hl' := hl
        rw [hrc] at hl'
        exact ⟨none, _, run_endLoop (P := P) hl' (by simp), hdone _ _ (Nat.le_refl _) (hI.put hi (by omega) hl (by rw [hrc]; rfl)) ((World.putObj_heap_other (by omega)).trans hk)⟩
      · have hl' := hl
        rw [hrc] at hl'
        exact ⟨some c, _, run_endLoop (P := P) hl' (by simp), hstop _ c pre _ (Nat.le_refl _) hpre ((hIx c).put hi (by omega) hl (by rw [hrc]; rfl)) ((World.putObj_heap_other (by omega)).trans hk)⟩

end Go.Proofs.Ytekbecpcbfhdmaa.Box
/- The contracts of the function that reading defers: a reader's panic is caught and told as ErrForm, a return is left as it is; and small words on the worlds in between. No condition. -/
namespace Go.Proofs.Ytekbecpcbfhdmaa.Oct
open Go.RowKit Go.Proofs.YtekbecpcbfhdmaaW.PrintWords Go.Proofs.Ytekbecpcbfhdmaa.UpdWords

set_option maxHeartbeats 400000 in
set_option maxRecDepth 100000 in
theorem catch_short (p q : Nat) (x : ByteArray) (y : Int) (older : List PanicEntry) (w : World) (hpq : p ≠ q) (hc : w.heap[p]? = some (.cells #[.string x] 9 (0, 0))) (hd : w.heap[q]? = some (.cells #[.int .i64 y] 33 (0, 0))) :
    CallsD Try.prog 39 #[.pointer (some ⟨p, 0, none⟩), .pointer (some ⟨q, 0, none⟩)] (.panicking ({ v := .iface 84 (.agg #[]), recovered := false } :: older)) w fun e u' w' =>
      e = .returned (.tuple #[]) ∧ u' = .panicking ({ v := .iface 84 (.agg #[]), recovered := true } :: older) ∧ w'.heap[p]? = some (.cells #[.string ⟨#[]⟩] 9 (0, 0)) ∧ w'.heap[q]? = some (.cells #[.int .i64 2] 33 (0, 0)) ∧ Upd (fun k => k = p ∨ k = q) w w' := by
  have ha := alloc_old (o' := .cells #[] 84 (0, 0)) hc
  have hb := alloc_old (o' := .cells #[] 84 (0, 0)) hd
  have hb2 := blk_far hb (p := ⟨p, 0, none⟩) (by show q ≠ p; exact Ne.symm hpq) (.string ⟨#[]⟩)
  have c1 : (w.alloc (.cells #[] 84 (0, 0))).cell? ⟨p, 0, none⟩ = some (.string x) := blk_cell ha 0
  have f1 := blk_frozen ha 0
  have c2 : ((w.alloc (.cells #[] 84 (0, 0))).setCell ⟨p, 0, none⟩ (.string ⟨#[]⟩)).cell? ⟨q, 0, none⟩ = some (.int .i64 y) := blk_cell hb2 0
  have f2 := blk_frozen hb 0
  have e1 := blk_set ha 0 (.string ⟨#[]⟩)
  have e2 := blk_far e1 (p := ⟨q, 0, none⟩) (by show p ≠ q; exact hpq) (.int .i64 2)
  have e3 := blk_set hb2 0 (.int .i64 2)
  have E2 := Lib.hid e2
  have E3 := Lib.hid e3
  clear e1 e2 e3 hb2 ha hb
  have hta : ∀ W : World, (Instr.typeAssert (.iface 84 (.agg #[])) 20 84 true).run Try.prog W = .ok (.tuple #[.agg #[], .bool true]) W := fun W => by rfl
  have hz : ∀ W : World, (zeroValue 84).run Try.prog W = .ok (.agg #[]) W := fun W => by rfl
  refine callsD_of_wpS Try.func39 rfl fun c₀ cs hu => ?_
  apply wpS_seq
  apply wpS_region
  simp [wpOpsS, go_sem, recoverD, hu, Try.ntmps39, Exit.thenS]
  apply wpS_of_wp
  go_wp2_with fail
  exact ⟨rfl, _, rfl, .tuple #[], by simp [results, Try.results39, go_sem], rfl, rfl, E2.out, E3.out, (((Upd.refl _ _).alloc _).set p 0 _ (.inl (.inl rfl))).set q 0 _ (.inl (.inr rfl))⟩

set_option maxHeartbeats 400000 in
set_option maxRecDepth 100000 in
theorem catch_idle (p q : Nat) (w : World) :
    CallsD Try.prog 39 #[.pointer (some ⟨p, 0, none⟩), .pointer (some ⟨q, 0, none⟩)] .returning w fun e u' w' => e = .returned (.tuple #[]) ∧ u' = .returning ∧ w = w' := by
  refine callsD_of_wpS Try.func39 rfl fun c₀ cs hu => ?_
  apply wpS_seq
  apply wpS_region
  simp [wpOpsS, go_sem, recoverD, hu, Try.ntmps39, Exit.thenS]
  apply wpS_of_wp
  go_wp2_with fail
  exact ⟨rfl, _, by rw [← hu], .tuple #[], by simp [results, Try.results39, go_sem], rfl, rfl, rfl⟩

theorem three {w : World} (o1 o2 o3 : Obj) : (((w.alloc o1).alloc o2).alloc o3).heap[w.heap.size]? = some o1 ∧ (((w.alloc o1).alloc o2).alloc o3).heap[w.heap.size + 1]? = some o2 ∧ (((w.alloc o1).alloc o2).alloc o3).heap[w.heap.size + 2]? = some o3 := by
  have h1 : (w.alloc o1).heap[w.heap.size]? = some o1 := heap_alloc_new _ _
  have h2 := heap_alloc2_new w o1 o2
  have h3 := heap_alloc2_new (w.alloc o1) o2 o3
  exact ⟨alloc_old (alloc_old h1), alloc_old h2, by simpa using h3⟩

theorem cell_alloc3 {w : World} {a : Addr} {v : Value} (o1 o2 o3 : Obj) (h : w.cell? a = some v) : (((w.alloc o1).alloc o2).alloc o3).cell? a = some v := by
  have hl := World.block_lt_of_cell? w a h
  rw [World.cell?_alloc_lt _ _ _ (by simp; omega), World.cell?_alloc_lt _ _ _ (by simp; omega), World.cell?_alloc_lt _ _ _ hl, h]


/-- The results stored at the end of reading: what is read of them, and what has changed. -/
theorem door_ok {S : Nat → Prop} {Q : World → Prop} {w w1 : World} {v0 v1 : Value} {t1 t2 : TypeId} (x y : Value) (h1 : w1.heap[w.heap.size]? = some (.cells #[v0] t1 (0, 0))) (h2 : (w1.setCell ⟨w.heap.size, 0, none⟩ x).heap[w.heap.size + 1]? = some (.cells #[v1] t2 (0, 0)))
    (hq : Q w1) (hQ : ∀ a b, Upd (fun k => k = w.heap.size ∨ k = w.heap.size + 1) a b → Q a → Q b) (hu : Upd S w w1) :
    ((w1.setCell ⟨w.heap.size, 0, none⟩ x).setCell ⟨w.heap.size + 1, 0, none⟩ y).cell? ⟨w.heap.size, 0, none⟩ = some x ∧ ((w1.setCell ⟨w.heap.size, 0, none⟩ x).setCell ⟨w.heap.size + 1, 0, none⟩ y).cell? ⟨w.heap.size + 1, 0, none⟩ = some y ∧
    Q ((w1.setCell ⟨w.heap.size, 0, none⟩ x).setCell ⟨w.heap.size + 1, 0, none⟩ y) ∧ Upd S w ((w1.setCell ⟨w.heap.size, 0, none⟩ x).setCell ⟨w.heap.size + 1, 0, none⟩ y) := by
  refine ⟨?_, ?_, hQ _ _ (((Upd.refl _ _).set _ 0 _ (.inl (.inl rfl))).set _ 0 _ (.inl (.inr rfl))) hq, (hu.set _ 0 _ (.inr (Nat.le_refl _))).set _ 0 _ (.inr (by omega))⟩
  · rw [World.cell?_setCell_other _ _ _ _ (fun e => by have := congrArg Addr.block e; simp at this)]
    exact blk_cell (blk_set h1 0 x) 0
  · exact blk_cell (blk_set h2 0 y) 0
/-- The world in which the closure is called. -/
def W3 (w : World) (b : ByteArray) : World := ((w.alloc (.cells #[.string ⟨#[]⟩] 9 (0, 0))).alloc (.cells #[.int .i64 0] 33 (0, 0))).alloc (.cells #[.string b] 86 (0, 0))
theorem W3_upd (w : World) (b : ByteArray) (S : Nat → Prop) : Upd S w (W3 w b) := (((Upd.refl _ _).alloc _).alloc _).alloc _
theorem W3_heap {w : World} (b : ByteArray) {g : Nat} {o : Obj} (h : w.heap[g]? = some o) : (W3 w b).heap[g]? = some o := alloc_old (alloc_old (alloc_old h))
theorem W3_cell {w : World} (b : ByteArray) {a : Addr} {v : Value} (h : w.cell? a = some v) : (W3 w b).cell? a = some v := cell_alloc3 _ _ _ h
theorem W3_rd (w : World) (b : ByteArray) : Rd (W3 w b) (w.heap.size + 1 + 1) b := (three _ _ _).2.2
theorem two2 {w : World} (o1 o2 : Obj) : ((w.alloc o1).alloc o2).heap[w.heap.size]? = some o1 ∧ ((w.alloc o1).alloc o2).heap[w.heap.size + 1]? = some o2 := ⟨alloc_old (heap_alloc_new _ _), heap_alloc2_new _ _ _⟩
theorem W3_size (w : World) (b : ByteArray) : (W3 w b).heap.size = w.heap.size + 3 := by unfold W3; simp

end Go.Proofs.Ytekbecpcbfhdmaa.Oct
/- The contracts of reading over Cut's closure, and of Cut: ErrArg for what is no piece's width, ErrForm where the bytes aren't there, else the piece and what is left; no condition but sizes that a string can have. -/
namespace Go.Proofs.Ytekbecpcbfhdmaa.Oct
open Go.RowKit Go.Proofs.YtekbecpcbfhdmaaW.PrintWords Go.Proofs.Ytekbecpcbfhdmaa.UpdWords

/-! ### Cut -/
set_option maxHeartbeats 400000 in
set_option maxRecDepth 100000 in
theorem cut1_ok (g gn gs : Nat) (b s r x : ByteArray) (n : Int) (w : World) (hb : Rd w g b) (hn : w.cell? ⟨gn, 0, none⟩ = some (.int .i64 n)) (hx : w.heap[gs]? = some (.cells #[.string x] 9 (0, 0))) (hg : g ≠ gs) (h0 : 0 ≤ n) (h8 : n ≤ 4) (hs : b.size ≤ maxLen) (h : cutOf b n.toNat = some (s, r)) :
    Calls Try.prog 35 #[.pointer (some ⟨g, 0, none⟩), .pointer (some ⟨gn, 0, none⟩), .pointer (some ⟨gs, 0, none⟩)] w fun e w' => e = .returned (.tuple #[]) ∧ Rd w' g r ∧ w'.heap[gs]? = some (.cells #[.string s] 9 (0, 0)) ∧ Upd (fun k => k = g ∨ k = gs) w w' := by
  have H := Lib.hid h; clear h
  go_enter Try.func35, Try.ntmps35
  go_wp2_with fail
  refine (cut_ok g b n w s r hb h0 h8 hs H.out).mono ?_
  rintro e w1 ⟨rfl, hb1, hu1⟩
  have hx1 := hu1.heap hx (fun e => hg e.symm)
  have c1 : w1.cell? ⟨gs, 0, none⟩ = some (.string x) := blk_cell hx1 0
  have f1 := blk_frozen hx1 0
  go_wp2_with fail
  go_end0
  exact ⟨rfl, blk_far hb1 (by show g ≠ gs; exact hg) _, blk_set hx1 0 _, (hu1.mono (fun i h => .inl (.inl h))).set gs 0 _ (.inl (.inr rfl))⟩

set_option maxHeartbeats 400000 in
set_option maxRecDepth 100000 in
theorem cut1_short (g gn gs : Nat) (b : ByteArray) (n : Int) (w : World) (hb : Rd w g b) (hn : w.cell? ⟨gn, 0, none⟩ = some (.int .i64 n)) (h0 : 0 ≤ n) (h8 : n ≤ 4) (hs : b.size ≤ maxLen) (h : cutOf b n.toNat = none) :
    Calls Try.prog 35 #[.pointer (some ⟨g, 0, none⟩), .pointer (some ⟨gn, 0, none⟩), .pointer (some ⟨gs, 0, none⟩)] w fun e w' => e = .panicked short ∧ Upd (fun k => k = g ∨ k = gs) w w' := by
  have H := Lib.hid h; clear h
  go_enter Try.func35, Try.ntmps35
  go_wp2_with fail
  refine (cut_short g b n w hb h0 h8 hs H.out).mono ?_
  rintro e w1 ⟨rfl, hu1⟩
  go_wp2_with fail
  exact ⟨rfl, rfl, hu1.mono (fun i h => .inl (.inl h))⟩


set_option maxHeartbeats 400000 in
set_option maxRecDepth 100000 in
theorem reading_cut_ok (c1 c2 : Value) (b r : ByteArray) (S : Nat → Prop) (Q : World → Prop) (w : World) (hS : ∀ k, S k → k < w.heap.size) (hQ : ∀ a b, Upd (fun k => k = w.heap.size ∨ k = w.heap.size + 1) a b → Q a → Q b)
    (hcl : Hid (Calls Try.prog 35 #[.pointer (some ⟨w.heap.size + 1 + 1, 0, none⟩), c1, c2] (W3 w b) fun e w' => e = .returned (.tuple #[]) ∧ Rd w' (w.heap.size + 1 + 1) r ∧ Q w' ∧ Upd (fun k => k = w.heap.size + 1 + 1 ∨ S k) (W3 w b) w')) :
    Calls Try.prog 34 #[.string b, .func (.func 35) #[] #[c1, c2]] w fun e w' => e = .returned (.tuple #[.string r, .int .i64 0]) ∧ Q w' ∧ Upd S w w' := by
  have hmf : ∀ (fn : Fn) (first cap : Array Value) (w : World), (Instr.makeFunc fn first cap).run Try.prog w = .ok (.func fn first cap) w := fun _ _ _ _ => rfl
  have HS := Lib.hid hS; clear hS
  have HQ := Lib.hid hQ; clear hQ
  go_enter_defers Try.func34, Try.ntmps34
  go_wp2_with fail
  refine hcl.out.mono ?_
  rintro e w1 ⟨rfl, hb1, hq1, hu1⟩
  have s1 := hu1.heap (three _ _ _).1 (fun h => h.elim (fun h => by omega) (fun h => by have := HS.out _ h; omega))
  have s2 := hu1.heap (three _ _ _).2.1 (fun h => h.elim (fun h => by omega) (fun h => by have := HS.out _ h; omega))
  have c1 : w1.cell? ⟨w.heap.size + 1 + 1, 0, none⟩ = some (.string r) := hb1.cell
  have c2 : w1.cell? ⟨w.heap.size, 0, none⟩ = some (.string ⟨#[]⟩) := blk_cell s1 0
  have f2 := blk_frozen s1 0
  have s3 := blk_far s2 (p := ⟨w.heap.size, 0, none⟩) (by show w.heap.size + 1 ≠ w.heap.size; omega) (.string r)
  have c3 : (w1.setCell ⟨w.heap.size, 0, none⟩ (.string r)).cell? ⟨w.heap.size + 1, 0, none⟩ = some (.int .i64 0) := blk_cell s3 0
  have f3 := blk_frozen s2 0
  have S1 := Lib.hid s1; clear s1
  have S3 := Lib.hid s3; clear s3
  clear s2
  have HX := Lib.hid hq1; clear hq1
  have HU := Lib.hid ((W3_upd w b S).trans hu1 (fun i h => h.elim (fun h => .inr (by omega)) .inl)); clear hu1
  go_wp2_with fail
  have hr := door_ok (v0 := .string ⟨#[]⟩) (v1 := .int .i64 0) (.string r) (.int .i64 0) S1.out S3.out HX.out HQ.out HU.out
  generalize (w1.setCell ⟨w.heap.size, 0, none⟩ (.string r)).setCell ⟨w.heap.size + 1, 0, none⟩ (.int .i64 0) = W at hr
  obtain ⟨r1, r2, r3, r4⟩ := hr
  refine leaves_cons (f := 39) (args := #[.pointer (some ⟨w.heap.size, 0, none⟩), .pointer (some ⟨w.heap.size + 1, 0, none⟩)]) (by simp) (by simp [go_sem]) ?_
  refine (catch_idle _ _ _).mono ?_
  rintro e u' w'' ⟨rfl, rfl, rfl⟩
  have R3 := Lib.hid r3
  clear r3
  simp [Leaves, settle, results, Try.results34, go_sem, r1, r2]
  exact ⟨R3.out, r4⟩

set_option maxHeartbeats 400000 in
set_option maxRecDepth 100000 in
theorem reading_cut_short (c1 c2 : Value) (b : ByteArray) (S : Nat → Prop) (w : World) (hS : ∀ k, S k → k < w.heap.size)
    (hcl : Hid (Calls Try.prog 35 #[.pointer (some ⟨w.heap.size + 1 + 1, 0, none⟩), c1, c2] (W3 w b) fun e w' => e = .panicked short ∧ Upd (fun k => k = w.heap.size + 1 + 1 ∨ S k) (W3 w b) w')) :
    Calls Try.prog 34 #[.string b, .func (.func 35) #[] #[c1, c2]] w fun e w' => e = .returned (.tuple #[.string ⟨#[]⟩, .int .i64 2]) ∧ Upd S w w' := by
  have hmf : ∀ (fn : Fn) (first cap : Array Value) (w : World), (Instr.makeFunc fn first cap).run Try.prog w = .ok (.func fn first cap) w := fun _ _ _ _ => rfl
  have HS := Lib.hid hS; clear hS
  go_enter_defers Try.func34, Try.ntmps34
  go_wp2_with fail
  refine hcl.out.mono ?_
  rintro e w1 ⟨rfl, hu1⟩
  have s1 := hu1.heap (three _ _ _).1 (fun h => h.elim (fun h => by omega) (fun h => by have := HS.out _ h; omega))
  have s2 := hu1.heap (three _ _ _).2.1 (fun h => h.elim (fun h => by omega) (fun h => by have := HS.out _ h; omega))
  have S1 := Lib.hid s1; clear s1
  have S2 := Lib.hid s2; clear s2
  have HU := Lib.hid ((W3_upd w b S).trans hu1 (fun i h => h.elim (fun h => .inr (by omega)) .inl)); clear hu1
  go_wp2_with fail
  refine leaves_cons (f := 39) (args := #[.pointer (some ⟨w.heap.size, 0, none⟩), .pointer (some ⟨w.heap.size + 1, 0, none⟩)]) (by simp) (by simp [go_sem]) ?_
  refine (catch_short w.heap.size (w.heap.size + 1) ⟨#[]⟩ 0 [] w1 (by omega) S1.out S2.out).mono ?_
  rintro e u' w2 ⟨rfl, rfl, r1, r2, r4⟩
  have r1 : w2.cell? ⟨w.heap.size, 0, none⟩ = some (.string ⟨#[]⟩) := blk_cell r1 0
  have r2 : w2.cell? ⟨w.heap.size + 1, 0, none⟩ = some (.int .i64 2) := blk_cell r2 0
  have R4 := Lib.hid (HU.out.trans r4 (fun i h => .inr (by omega))); clear r4
  simp [Leaves, settle, results, Try.results34, go_sem, r1, r2]
  exact R4.out

set_option maxHeartbeats 400000 in
set_option maxRecDepth 100000 in
theorem piece_any (n : Int) (w : World) (x : Bool) (h : decide (n = 1 ∨ n = 2 ∨ n = 4) = x) : Calls Try.prog 33 #[.int .i64 n] w fun e w' => e = .returned (.bool x) ∧ w = w' := by
  subst h
  by_cases h1 : n = 1
  · subst h1; go_enter Try.func33, Try.ntmps33; go_wp2; go_ret; exact ⟨by simp, rfl⟩
  by_cases h2 : n = 2
  · subst h2; go_enter Try.func33, Try.ntmps33; go_wp2; go_ret; exact ⟨by simp, rfl⟩
  by_cases h4 : n = 4
  · subst h4; go_enter Try.func33, Try.ntmps33; go_wp2; go_ret; exact ⟨by simp, rfl⟩
  have e1 : (n == 1) = false := beq_eq_false_iff_ne.mpr h1
  have e2 : (n == 2) = false := beq_eq_false_iff_ne.mpr h2
  have e4 : (n == 4) = false := beq_eq_false_iff_ne.mpr h4
  go_enter Try.func33, Try.ntmps33
  go_wp2
  go_ret
  exact ⟨by simp [h1, h2, h4], rfl⟩

set_option maxHeartbeats 400000 in
set_option maxRecDepth 100000 in
theorem Cut_arg (b : ByteArray) (n : Int) (w : World) (h : decide (n = 1 ∨ n = 2 ∨ n = 4) = false) :
    Calls Try.prog 29 #[.string b, .int .i64 n] w fun e w' => e = .returned (.tuple #[.string ⟨#[]⟩, .string ⟨#[]⟩, .int .i64 1]) ∧ Below w.heap.size w w' := by
  have H := Lib.hid h; clear h
  go_enter Try.func29, Try.ntmps29
  go_wp2_with fail
  refine (piece_any n _ false H.out).mono ?_
  rintro e w1 ⟨rfl, rfl⟩
  go_wp2_with fail
  go_ret3
  exact ⟨rfl, below_alloc (Below.refl _ _) _⟩

set_option maxHeartbeats 400000 in
set_option maxRecDepth 100000 in
theorem Cut_short (b : ByteArray) (n : Int) (w : World) (h : decide (n = 1 ∨ n = 2 ∨ n = 4) = true) (hs : b.size ≤ maxLen) (hc : cutOf b n.toNat = none) :
    Calls Try.prog 29 #[.string b, .int .i64 n] w fun e w' => e = .returned (.tuple #[.string ⟨#[]⟩, .string ⟨#[]⟩, .int .i64 2]) ∧ Below w.heap.size w w' := by
  have hmf : ∀ (fn : Fn) (first cap : Array Value) (w : World), (Instr.makeFunc fn first cap).run Try.prog w = .ok (.func fn first cap) w := fun _ _ _ _ => rfl
  have hn : 0 ≤ n ∧ n ≤ 4 := by have := of_decide_eq_true h; omega
  obtain ⟨n0, n4⟩ := hn
  have H := Lib.hid h; clear h
  have HC := Lib.hid hc; clear hc
  go_enter Try.func29, Try.ntmps29
  go_wp2_with fail
  refine (piece_any n _ true H.out).mono ?_
  rintro e w1 ⟨rfl, rfl⟩
  go_wp2_with fail
  obtain ⟨t1, t2⟩ := two2 (w := w) (.cells #[.int .i64 n] 3 (0, 0)) (.cells #[.string ⟨#[]⟩] 9 (0, 0))
  have hcl := cut1_short ((w.heap.size + 2) + 1 + 1) w.heap.size (w.heap.size + 1) b n (W3 ((w.alloc (.cells #[.int .i64 n] 3 (0, 0))).alloc (.cells #[.string ⟨#[]⟩] 9 (0, 0))) b) (by have := W3_rd ((w.alloc (.cells #[.int .i64 n] 3 (0, 0))).alloc (.cells #[.string ⟨#[]⟩] 9 (0, 0))) b; simpa using this) (W3_cell b (blk_cell t1 0)) n0 n4 hs HC.out
  refine (reading_cut_short _ _ b (· = w.heap.size + 1) _ (fun k hk => by simp; omega) (Lib.hid (by simpa using hcl))).mono ?_
  rintro e w2 ⟨rfl, hu⟩
  have hbl : Below w.heap.size w w2 := hu.below (below_alloc (below_alloc (Below.refl _ _) _) _) (by simp; omega) (fun i h => by omega)
  go_wp2_with fail
  go_ret3
  exact ⟨rfl, hbl⟩

set_option maxHeartbeats 400000 in
set_option maxRecDepth 100000 in
theorem Cut_ok (b s r : ByteArray) (n : Int) (w : World) (h : decide (n = 1 ∨ n = 2 ∨ n = 4) = true) (hs : b.size ≤ maxLen) (hc : cutOf b n.toNat = some (s, r)) :
    Calls Try.prog 29 #[.string b, .int .i64 n] w fun e w' => e = .returned (.tuple #[.string s, .string r, .int .i64 0]) ∧ Below w.heap.size w w' := by
  have hmf : ∀ (fn : Fn) (first cap : Array Value) (w : World), (Instr.makeFunc fn first cap).run Try.prog w = .ok (.func fn first cap) w := fun _ _ _ _ => rfl
  have hn : 0 ≤ n ∧ n ≤ 4 := by have := of_decide_eq_true h; omega
  obtain ⟨n0, n4⟩ := hn
  have H := Lib.hid h; clear h
  have HC := Lib.hid hc; clear hc
  go_enter Try.func29, Try.ntmps29
  go_wp2_with fail
  refine (piece_any n _ true H.out).mono ?_
  rintro e w1 ⟨rfl, rfl⟩
  go_wp2_with fail
  obtain ⟨t1, t2⟩ := two2 (w := w) (.cells #[.int .i64 n] 3 (0, 0)) (.cells #[.string ⟨#[]⟩] 9 (0, 0))
  have hcl := cut1_ok ((w.heap.size + 2) + 1 + 1) w.heap.size (w.heap.size + 1) b s r ⟨#[]⟩ n (W3 ((w.alloc (.cells #[.int .i64 n] 3 (0, 0))).alloc (.cells #[.string ⟨#[]⟩] 9 (0, 0))) b) (by have := W3_rd ((w.alloc (.cells #[.int .i64 n] 3 (0, 0))).alloc (.cells #[.string ⟨#[]⟩] 9 (0, 0))) b; simpa using this) (W3_cell b (blk_cell t1 0)) (W3_heap b t2) (by omega) n0 n4 hs HC.out
  refine (reading_cut_ok _ _ b r (· = w.heap.size + 1) (fun W => W.heap[w.heap.size + 1]? = some (.cells #[.string s] 9 (0, 0))) _ (fun k hk => by simp; omega) (fun A B hab hA => hab.heap hA (by simp)) (Lib.hid (by simpa using hcl))).mono ?_
  rintro e w2 ⟨rfl, hq, hu⟩
  have hbl : Below w.heap.size w w2 := hu.below (below_alloc (below_alloc (Below.refl _ _) _) _) (by simp; omega) (fun i h => by omega)
  have cq : w2.cell? ⟨w.heap.size + 1, 0, none⟩ = some (.string s) := blk_cell hq 0
  clear hq
  go_wp2_with fail
  go_ret3
  exact ⟨rfl, hbl⟩

end Go.Proofs.Ytekbecpcbfhdmaa.Oct
namespace Go.Proofs.Ytekbecpcbfhdmaa.Given
open Go.RowKit Go.Proofs.YtekbecpcbfhdmaaW.PrintWords Go.Proofs.Ytekbecpcbfhdmaa.Oct

/-- Cut: the piece and what is left, or the error. -/
def octets_Cut.f (a0 : ByteArray) (a1 : Int) : Option (ByteArray × ByteArray × Int) :=
  if a0.size ≤ 9223372036854775807 then
    if a1 = 1 ∨ a1 = 2 ∨ a1 = 4 then
      match cutOf a0 a1.toNat with
      | some (s, r) => some (s, r, 0)
      | none => some (⟨#[]⟩, ⟨#[]⟩, 2)
    else some (⟨#[]⟩, ⟨#[]⟩, 1)
  else none
theorem octets_Cut.calls (a0 : ByteArray) (a1 : Int) (r1 r2 : ByteArray) (r3 : Int) (w : World) (h : octets_Cut.f a0 a1 = some (r1, r2, r3)) :
    Calls Try.prog 29 #[.string a0, .int .i64 a1] w fun e w' => e = .returned (.tuple #[.string r1, .string r2, .int .i64 r3]) ∧ Below w.heap.size w w' := by
  unfold octets_Cut.f at h
  by_cases hs : a0.size ≤ 9223372036854775807
  · rw [if_pos hs] at h
    by_cases hw : a1 = 1 ∨ a1 = 2 ∨ a1 = 4
    · rw [if_pos hw] at h
      cases hc : cutOf a0 a1.toNat with
      | none =>
        rw [hc] at h
        simp only [Option.some.injEq, Prod.mk.injEq] at h
        obtain ⟨rfl, rfl, rfl⟩ := h
        exact Cut_short a0 a1 w (decide_eq_true hw) hs hc
      | some x =>
        obtain ⟨s, r⟩ := x
        rw [hc] at h
        simp only [Option.some.injEq, Prod.mk.injEq] at h
        obtain ⟨rfl, rfl, rfl⟩ := h
        exact Cut_ok a0 s r a1 w (decide_eq_true hw) hs hc
    · rw [if_neg hw] at h
      simp only [Option.some.injEq, Prod.mk.injEq] at h
      obtain ⟨rfl, rfl, rfl⟩ := h
      exact Cut_arg a0 a1 w (decide_eq_false hw)
  · rw [if_neg hs] at h; cases h

end Go.Proofs.Ytekbecpcbfhdmaa.Given
/- The iterator over a name's labels: what it gives. -/
namespace Go.Proofs.Ytekbecpcbfhdmaa.Name
open Go.RowKit Go.Shelf Go.Proofs.YtekbecpcbfhdmaaW.PrintWords Go.Proofs.Ytekbecpcbfhdmaa.Oct Go.Proofs.Ytekbecpcbfhdmaa.UpdWords Go.Proofs.Ytekbecpcbfhdmaa.Given Go.Proofs.Ytekbecpcbfhdmaa.Box
attribute [local go_sem] Oper.semAt_some
set_option linter.unusedVariables false

def rootB : ByteArray := ⟨#[0]⟩
/-- The labels of some bytes, each with what is left behind it; as many rounds as there are bytes suffice. -/
def labs : Nat → ByteArray → List (ByteArray × ByteArray)
  | 0, _ => []
  | k + 1, n => if n = rootB then [] else
    match cutOf n 1 with
    | some (s, r) => if s.size = 0 ∨ 63 < s.size then [] else (s, r) :: labs k r
    | none => []
theorem cut_less {n s r : ByteArray} (h : cutOf n 1 = some (s, r)) : r.size < n.size := by
  unfold cutOf at h
  split at h
  · split at h
    · simp only [Option.some.injEq, Prod.mk.injEq] at h
      obtain ⟨_, rfl⟩ := h
      rw [drop_size]; omega
    · exact absurd h (by simp)
  · exact absurd h (by simp)
theorem labs_more : ∀ (k : Nat) (n : ByteArray), n.size ≤ k → labs (k + 1) n = labs k n
  | 0, n, h => by
    rw [labs, labs]
    split
    · rfl
    · unfold cutOf; rw [if_neg (by omega)]
  | k + 1, n, h => by
    rw [labs, labs]
    split
    · rfl
    · cases hc : cutOf n 1 with
      | none => rfl
      | some x =>
        obtain ⟨s, r⟩ := x
        have := cut_less hc
        simp only []
        rw [labs_more k r (by omega)]
theorem labs_up (n : ByteArray) : ∀ j, labs (n.size + j) n = labs n.size n
  | 0 => rfl
  | j + 1 => by rw [← Nat.add_assoc, labs_more _ n (by omega), labs_up n j]
theorem labs_at (n : ByteArray) (k : Nat) (h : n.size ≤ k) : labs k n = labs n.size n := by
  have := labs_up n (k - n.size)
  rwa [show n.size + (k - n.size) = k from by omega] at this
theorem labs_cons {n s r : ByteArray} (hn : ¬ n = rootB) (hc : cutOf n 1 = some (s, r)) (hs : ¬ (s.size = 0 ∨ 63 < s.size)) : labs n.size n = (s, r) :: labs r.size r := by
  have := cut_less hc
  rw [← labs_at n (n.size - 1 + 1) (by omega), labs, if_neg hn, hc]
  simp only []
  rw [if_neg hs, labs_at r _ (by omega)]
theorem labs_root {n : ByteArray} (hn : n = rootB) : labs n.size n = [] := by
  subst hn; rfl
theorem labs_none {n : ByteArray} (hc : cutOf n 1 = none) : labs n.size n = [] := by
  rw [← labs_at n (n.size + 1) (by omega), labs]
  split
  · rfl
  · rw [hc]
theorem labs_bad {n s r : ByteArray} (hc : cutOf n 1 = some (s, r)) (hs : s.size = 0 ∨ 63 < s.size) : labs n.size n = [] := by
  rw [← labs_at n (n.size + 1) (by omega), labs]
  split
  · rfl
  · rw [hc]; simp only []; rw [if_pos hs]

theorem list_ne {n : ByteArray} {l : List UInt8} (h : ¬ n = ⟨l.toArray⟩) : (n.toList == l) = false := by
  rw [beq_eq_false_iff_ne, ByteArray.toList_eq]
  exact fun e => h (by apply list_inj; rw [e])
def boxLen (Bn : Nat) (w : World) : Nat := match w.cell? ⟨Bn, 0, none⟩ with | some (.string s) => s.size | _ => 0
theorem boxLen_eq {Bn : Nat} {w : World} {n : ByteArray} (h : w.cell? ⟨Bn, 0, none⟩ = some (.string n)) : boxLen Bn w = n.size := by unfold boxLen; rw [h]
theorem below_grown {w w' : World} (h : Below w.heap.size w w') : w.grownBy w' none := ⟨h.os, h.tape, h.output, h.size, fun k hk _ => h.block k hk⟩
theorem cut_none {n : ByteArray} (hs : n.size ≤ 9223372036854775807) (hc : cutOf n 1 = none) : octets_Cut.f n 1 = some (⟨#[]⟩, ⟨#[]⟩, 2) := by
  unfold octets_Cut.f; rw [if_pos hs, if_pos (.inl rfl)]
  show (match cutOf n 1 with | some (s, r) => some (s, r, (0 : Int)) | none => some (⟨#[]⟩, ⟨#[]⟩, 2)) = _
  rw [hc]
theorem cut_some {n s r : ByteArray} (hs : n.size ≤ 9223372036854775807) (hc : cutOf n 1 = some (s, r)) : octets_Cut.f n 1 = some (s, r, 0) := by
  unfold octets_Cut.f; rw [if_pos hs, if_pos (.inl rfl)]
  show (match cutOf n 1 with | some (s, r) => some (s, r, (0 : Int)) | none => some (⟨#[]⟩, ⟨#[]⟩, 2)) = _
  rw [hc]

set_option maxRecDepth 100000 in
set_option maxHeartbeats 1000000 in
theorem labels1 (l Bn : Nat) (n0 : ByteArray) (J Jx : List (ByteArray × ByteArray) → World → Prop)
    (hJ : ∀ s A B row, J s A → A.grownBy B row → (row = none ∨ row = some Bn) → J s B)
    (hY : ∀ pre x W1, J pre W1 → pre ++ [x] <+: labs n0.size n0 → YieldAt Fence.wide 1 Try.prog l #[.string x.1, .string x.2] W1 fun e W' =>
      (e = .returned (.bool true) ∧ J (pre ++ [x]) W' ∧ W'.heap[Bn]? = W1.heap[Bn]?) ∨ (e = .returned (.bool false) ∧ Jx (pre ++ [x]) W'))
    (W : World) (hBn : W.heap[Bn]? = some (.cells #[.string n0] 9 (0, 0))) (hs : n0.size ≤ maxLen) (h0 : J [] W) :
    CallsIn Fence.wide 2 Try.prog 31 #[.func (.yield l) #[] #[], .pointer (some ⟨Bn, 0, none⟩)] W fun e W' => (∃ v, e = .returned v) ∧
      (J (labs n0.size n0) W' ∨ ∃ pre, pre <+: labs n0.size n0 ∧ Jx pre W') := by
  refine callsIn_of_wp Try.func31 rfl trivial ?_ rfl
  simp only [Try.ntmps31, List.size_toArray, List.length_cons, List.length_nil, Nat.reduceAdd, Nat.reduceSub, Array.replicate_succ, Array.replicate_zero, List.push_toArray, List.append_toArray, List.nil_append, List.cons_append]
  gi_wp2
  gi_loopw [] (fun wr => ∃ (pre : List (ByteArray × ByteArray)) (n : ByteArray), wr.heap[Bn]? = some (.cells #[.string n] 9 (0, 0)) ∧ n.size ≤ maxLen ∧ labs n0.size n0 = pre ++ labs n.size n ∧ J pre wr)
    (fun wr => boxLen Bn wr)
  case atStart => exact ⟨[], n0, hBn, hs, rfl, h0⟩
  case round =>
    obtain ⟨pre, n, hb, hns, hL, hJs⟩ := hrel
    have hc : wr.cell? ⟨Bn, 0, none⟩ = some (.string n) := blk_cell hb 0
    have hf := blk_frozen hb 0
    by_cases hr : n = rootB
    · subst hr
      unfold rootB at hc
      gi_wp2
      go_end0
      refine ⟨⟨_, rfl⟩, .inl ?_⟩
      rw [hL, labs_root rfl, List.append_nil]; exact hJs
    · have t1 : (n.toList == [0]) = false := list_ne hr
      cases hcut : cutOf n 1 with
      | none =>
        have hq := cut_none hns hcut
        gi_wp2_with (refine ⟨trivial, ?_⟩; gi_at_call 29; refine (callsIn_wide.2 (octets_Cut.calls n 1 _ _ _ _ hq)).mono ?_; rintro e w' ⟨rfl, hb1⟩)
        refine bodyPost_ret (results_none rfl _ _ _) rfl ?_
        refine ⟨⟨_, rfl⟩, .inl ?_⟩
        rw [hL, labs_none hcut, List.append_nil]; exact hJ _ _ _ _ hJs (below_grown hb1) (.inl rfl)
      | some x =>
        obtain ⟨s, r⟩ := x
        have hq := cut_some hns hcut
        by_cases hbad : s.size = 0 ∨ 63 < s.size
        · by_cases hz : s.size = 0
          · have t2 : (s.toList == []) = true := by rw [ByteArray.toList_eq, List.length_eq_zero_iff.mp ((size_list s).trans hz)]; rfl
            gi_wp2_with (refine ⟨trivial, ?_⟩; gi_at_call 29; refine (callsIn_wide.2 (octets_Cut.calls n 1 _ _ _ _ hq)).mono ?_; rintro e w' ⟨rfl, hb1⟩)
            refine bodyPost_ret (results_none rfl _ _ _) rfl ?_
            refine ⟨⟨_, rfl⟩, .inl ?_⟩
            rw [hL, labs_bad hcut hbad, List.append_nil]; exact hJ _ _ _ _ hJs (below_grown hb1) (.inl rfl)
          · have t2 : (s.toList == []) = false := list_ne (l := []) (fun h => hz (by rw [h]; rfl))
            have t3 : decide (63 < (s.size : Int)) = true := decide_eq_true (by omega)
            have t4 : decide (63 < s.size) = true := decide_eq_true (by omega)
            gi_wp2_with (refine ⟨trivial, ?_⟩; gi_at_call 29; refine (callsIn_wide.2 (octets_Cut.calls n 1 _ _ _ _ hq)).mono ?_; rintro e w' ⟨rfl, hb1⟩)
            refine bodyPost_ret (results_none rfl _ _ _) rfl ?_
            refine ⟨⟨_, rfl⟩, .inl ?_⟩
            rw [hL, labs_bad hcut hbad, List.append_nil]; exact hJ _ _ _ _ hJs (below_grown hb1) (.inl rfl)
        · have t2 : (s.toList == []) = false := list_ne (l := []) (fun h => hbad (.inl (by rw [h]; rfl)))
          have t3 : decide (63 < (s.size : Int)) = false := decide_eq_false (by omega)
          have t4 : decide (63 < s.size) = false := decide_eq_false (by omega)
          have hl := labs_cons hr hcut hbad
          have hless := cut_less hcut
          gi_wp2_with (refine ⟨trivial, ?_⟩; gi_at_call 29; refine (callsIn_wide.2 (octets_Cut.calls n 1 _ _ _ _ hq)).mono ?_; rintro e w' ⟨rfl, hb1⟩; have hb2 := (hb1.block Bn (blk_lt hb)).trans hb; have hc2 : w'.cell? ⟨Bn, 0, none⟩ = some (.string n) := blk_cell hb2 0; have hf2 := blk_frozen hb2 0; have hb3 := blk_set hb2 0 (.string r); have hJ2 := hJ _ _ _ (some Bn) (hJ _ _ _ _ hJs (below_grown hb1) (.inl rfl)) (grownBy_setCell' w' Bn (.string r)) (.inr rfl); obtain ⟨fn, tmps, assign, body, hy, hR⟩ := hY pre (s, r) (w'.setCell ⟨Bn, 0, none⟩ (.string r)) hJ2 ⟨labs r.size r, by rw [hL, hl, List.append_assoc]; rfl⟩; dsimp only at hy; have hc3 : (w'.setCell ⟨Bn, 0, none⟩ (.string r)).cell? ⟨Bn, 0, none⟩ = some (.string r) := blk_cell hb3 0)
          refine hR.mono ?_
          rintro e W3 (⟨rfl, hJ3, hk3⟩ | ⟨rfl, hJx3⟩)
          · have hb4 := hk3.trans hb3
            gi_wp2
            go_roundw
            case rel => exact ⟨pre ++ [(s, r)], r, hb4, by omega, by rw [hL, hl, List.append_assoc]; rfl, hJ3⟩
            case measure => rw [boxLen_eq (blk_cell hb4 0), boxLen_eq hc]; exact hless
          · gi_wp2
            refine bodyPost_ret (results_none rfl _ _ _) rfl ?_
            exact ⟨⟨_, rfl⟩, .inr ⟨pre ++ [(s, r)], ⟨labs r.size r, by rw [hL, hl, List.append_assoc]; rfl⟩, hJx3⟩⟩

theorem stops (Bn : Nat) (n0 : ByteArray) (w : World) (hBn : w.heap[Bn]? = some (.cells #[.string n0] 9 (0, 0))) (hs : n0.size ≤ maxLen) :
    Stops Try.prog 2 31 #[.pointer (some ⟨Bn, 0, none⟩)] (fun x : ByteArray × ByteArray => #[.string x.1, .string x.2]) Bn (labs n0.size n0) w :=
  fun l J Jx W hW hJ hY h0 => labels1 l Bn n0 J Jx hJ hY W (hW.trans hBn) hs h0

set_option maxHeartbeats 1000000 in
theorem labels_in (n : ByteArray) (w : World) :
    CallsIn Fence.wide 2 Try.prog 25 #[.string n] w fun e w' => e = .returned (.func (.func 31) #[] #[.pointer (some ⟨w.heap.size, 0, none⟩)]) ∧ w' = w.alloc (.cells #[.string n] 9) := by
  refine callsIn_of_wp Try.func25 rfl trivial ?_ rfl
  simp only [Try.ntmps25, List.size_toArray, List.length_cons, List.length_nil, Nat.reduceAdd, Nat.reduceSub, Array.replicate_succ, Array.replicate_zero, List.push_toArray, List.append_toArray, List.nil_append, List.cons_append]
  gi_wp2
  go_ret
  exact ⟨rfl, rfl⟩

/-- What is left behind the last label. -/
def endIn (n : ByteArray) (pre : List (ByteArray × ByteArray)) : ByteArray := match pre.getLast? with | some x => x.2 | none => n
theorem endIn_snoc (n : ByteArray) (pre : List (ByteArray × ByteArray)) (x : ByteArray × ByteArray) : endIn n (pre ++ [x]) = x.2 := by unfold endIn; simp

theorem abide_box {n0 Bn g : Nat} {f : List (ByteArray × ByteArray) → Value} {t : TypeId} (hg : g ≠ Bn) : Abide n0 Bn (fun pre W => W.heap[g]? = some (.cells #[f pre] t (0, 0))) := fun s A B row hs hgr hr =>
  (hgr.block g (blk_lt hs) (fun e => by rcases hr g e.symm with h | ⟨_, o, ho, hc⟩; exact hg h; rw [hs] at ho; cases ho; cases hc)).trans hs
theorem abide_below {n0 Bn B : Nat} {w : World} (hB : B ≤ w.heap.size) (h0 : B ≤ n0) (hBn : B ≤ Bn) : Abide n0 Bn (fun (_ : List (ByteArray × ByteArray)) W => Below B w W) := fun s A _ row hs hgr hr =>
  hs.grown hgr (Nat.le_trans hB hs.size) (fun k e => by rcases hr k e with h | ⟨h, _⟩ <;> omega)
theorem abide_and {β : Type} {n0 Bn : Nat} {I I' : β → World → Prop} (h : Abide n0 Bn I) (h' : Abide n0 Bn I') : Abide n0 Bn (fun s W => I s W ∧ I' s W) := fun s A B row hs hg hr => ⟨h s A B row hs.1 hg hr, h' s A B row hs.2 hg hr⟩

set_option maxRecDepth 100000 in
set_option maxHeartbeats 2000000 in
theorem right_short (n : ByteArray) (w : World) (hs : n.size ≤ 255) (b : Bool) (hb : ((endIn n (labs n.size n)).toList == [0]) = b) :
    Calls Try.prog 19 #[.string n] w fun e w' => e = .returned (.bool b) ∧ Below w.heap.size w w' := by
  refine (callsIn_wide (n := 3)).1 ?_
  have t1 : decide (255 < (n.size : Int)) = false := decide_eq_false (by omega)
  have t2 : decide (255 < n.size) = false := decide_eq_false (by omega)
  refine callsIn_of_wp_marks Try.func19 rfl trivial ?_ rfl
  simp only [Try.ntmps19, List.size_toArray, List.length_cons, List.length_nil, Nat.reduceAdd, Nat.reduceSub, Array.replicate_succ, Array.replicate_zero, List.push_toArray, List.append_toArray, List.nil_append, List.cons_append]
  gi_wp2_with (refine ⟨trivial, ?_⟩; gi_at_call 25; refine (labels_in n _).mono ?_; rintro e w' ⟨rfl, rfl⟩)
  have hB0 : Below w.heap.size w ((w.alloc (.cells #[.string n] 9)).alloc (.cells #[.string n] 9)) := ((Below.refl _ w).alloc (Nat.le_refl _) _).alloc (by simp) _
  have b1 : ((w.alloc (.cells #[.string n] 9)).alloc (.cells #[.string n] 9)).heap[w.heap.size]? = some (.cells #[.string n] 9 (0, 0)) := blk_alloc (blk_new w _) _
  have b2 : ((w.alloc (.cells #[.string n] 9)).alloc (.cells #[.string n] 9)).heap[w.heap.size + 1]? = some (.cells #[.string n] 9 (0, 0)) := by
    have := blk_new (w.alloc (.cells #[.string n] 9)) (.cells #[.string n] 9); rwa [World.size_alloc] at this
  refine Box.rangeFunc (gf := 31) (lb := #[.pointer (some ⟨w.heap.size + 1, 0, none⟩)]) rfl (enters_of Try.func31 (by kernel_rfl) rfl) (fun _ => rfl) (Bn := w.heap.size + 1) (by simp)
    (stops (w.heap.size + 1) n _ b2 (by unfold maxLen; omega))
    (fun pre W => W.heap[w.heap.size]? = some (.cells #[.string (endIn n pre)] 9 (0, 0)) ∧ Below w.heap.size w W)
    (fun _ _ _ => False)
    (abide_and (abide_box (f := fun pre => .string (endIn n pre)) (by omega)) (abide_below (Nat.le_refl _) (by simp; omega) (by omega)))
    (fun _ _ _ _ _ hs _ _ => hs.elim)
    ⟨b1, hB0⟩
    (fun x => { tmps := #[.string n, undef, .bool false, .pointer (some ⟨w.heap.size, 0, none⟩), undef, .string x.2, .string n, .int .i64 (n.size : Int), .bool false, .string n, .string n, .func (.func 31) #[] #[.pointer (some ⟨w.heap.size + 1, 0, none⟩)], .string x.1, .string x.2, undef, undef, undef], defers := [] }) ?assign ?body ?done ?stop
  case assign =>
    intro l x W K hK
    gi_wp2
    exact hK
  case body =>
    rintro l pre x W ⟨hb1, hB⟩ hpre
    have hc : W.cell? ⟨w.heap.size, 0, none⟩ = some (.string (endIn n pre)) := blk_cell hb1 0
    have hf := blk_frozen hb1 0
    gi_wp2
    refine ⟨KeepsOthers.setCell _ _ _, Below.heap_setCell _ _ _ _ (by simp), ?_, hB.setCell (p := ⟨w.heap.size, 0, none⟩) (Nat.le_refl _) _⟩
    rw [endIn_snoc]; exact blk_set hb1 0 _
  case done =>
    rintro D W hD ⟨hb1, hB⟩ hK
    have hc : W.cell? ⟨w.heap.size, 0, none⟩ = some (.string (endIn n (labs n.size n))) := blk_cell hb1 0
    gi_wp2
    refine ⟨by simp, .inl ⟨_, _, rfl, run_takeDeferred hK, ?_⟩⟩
    exact ⟨_, results_tmp rfl _ _ _, rfl, hB.trans (belowK_b (w := w) (Nat.le_refl _) W D _ _ (by simp at hD; omega) hK rfl rfl)⟩
  case stop =>
    rintro D c pre W _ _ h _
    exact h.elim

set_option maxHeartbeats 1000000 in
theorem right_long (n : ByteArray) (w : World) (hs : 255 < n.size) : Calls Try.prog 19 #[.string n] w fun e w' => e = .returned (.bool false) ∧ w = w' := by
  have t1 : decide (255 < (n.size : Int)) = true := decide_eq_true (by omega)
  have t2 : decide (255 < n.size) = true := decide_eq_true (by omega)
  go_enter Try.func19, Try.ntmps19
  go_wp2
  go_ret
  exact ⟨rfl, rfl⟩

/-- A name? -/
def rightB (n : ByteArray) : Bool := decide (n.size ≤ 255) && ((endIn n (labs n.size n)).toList == [0])
theorem right_any (n : ByteArray) (w : World) : Calls Try.prog 19 #[.string n] w fun e w' => e = .returned (.bool (rightB n)) ∧ Below w.heap.size w w' := by
  by_cases hs : n.size ≤ 255
  · refine right_short n w hs _ ?_
    unfold rightB; rw [decide_eq_true hs, Bool.true_and]
  · refine (right_long n w (by omega)).mono fun e w' ⟨he, hw⟩ => ⟨?_, by rw [← hw]; exact Below.refl _ _⟩
    rw [he]; unfold rightB; rw [decide_eq_false hs, Bool.false_and]
end Go.Proofs.Ytekbecpcbfhdmaa.Name
/- name.Parent, name.Labels: their contracts. -/
namespace Go.Proofs.Ytekbecpcbfhdmaa.Name
open Go.RowKit Go.Shelf Go.Proofs.YtekbecpcbfhdmaaW.PrintWords Go.Proofs.Ytekbecpcbfhdmaa.Oct Go.Proofs.Ytekbecpcbfhdmaa.UpdWords Go.Proofs.Ytekbecpcbfhdmaa.Given Go.Proofs.Ytekbecpcbfhdmaa.Box
attribute [local go_sem] Oper.semAt_some
set_option linter.unusedVariables false

set_option maxRecDepth 100000 in
set_option maxHeartbeats 2000000 in
theorem parent_no (n : ByteArray) (w : World) (hr : rightB n = false) :
    Calls Try.prog 21 #[.string n] w fun e w' => e = .returned (.tuple #[.string ⟨#[]⟩, .bool false]) ∧ Below w.heap.size w w' := by
  have hq := fun W => right_any n W
  rw [hr] at hq
  go_enter Try.func21, Try.ntmps21
  go_wp2_with fail
  refine (hq _).mono ?_
  rintro e w1 ⟨rfl, hb1⟩
  have c1 : w1.heap[w.heap.size]? = some (.cells #[.string ⟨#[]⟩] 9 (0, 0)) := blk_below (blk_alloc (blk_new w _) _) hb1
  have c2 : w1.heap[w.heap.size + 1]? = some (.cells #[.bool false] 4 (0, 0)) := blk_below (by have := blk_new (w.alloc (.cells #[.string ⟨#[]⟩] 9)) (.cells #[.bool false] 4); rwa [World.size_alloc] at this) hb1
  have d1 : w1.cell? ⟨w.heap.size, 0, none⟩ = some (.string ⟨#[]⟩) := blk_cell c1 0
  have d2 : w1.cell? ⟨w.heap.size + 1, 0, none⟩ = some (.bool false) := blk_cell c2 0
  have f1 := blk_frozen c1 0
  have f2 := blk_frozen c2 0
  go_wp2_with fail
  have s1 := blk_set c1 0 (.string ⟨#[]⟩)
  have s2 := blk_far c2 (p := ⟨w.heap.size, 0, none⟩) (by show w.heap.size + 1 ≠ w.heap.size; omega) (.string ⟨#[]⟩)
  have s3 := blk_far s1 (p := ⟨w.heap.size + 1, 0, none⟩) (by show w.heap.size ≠ w.heap.size + 1; omega) (.bool false)
  have s4 := blk_set s2 0 (.bool false)
  have g1 := blk_cell s3 0
  have g2 := blk_cell s4 0
  refine bodyPost_ret (v := .tuple #[.string ⟨#[]⟩, .bool false]) ?_ rfl ⟨rfl, ?_⟩
  · simp [results, Try.f21, go_sem, g1, g2]
  · have h0 : Below w.heap.size w ((w.alloc (.cells #[.string ⟨#[]⟩] 9)).alloc (.cells #[.bool false] 4)) := ((Below.refl _ w).alloc (Nat.le_refl _) _).alloc (by simp) _
    exact ((h0.trans (hb1.mono (by simp; omega))).setCell (p := ⟨w.heap.size, 0, none⟩) (Nat.le_refl _) _).setCell (p := ⟨w.heap.size + 1, 0, none⟩) (by simp) _

set_option maxRecDepth 100000 in
set_option maxHeartbeats 2000000 in
theorem parent_yes (n : ByteArray) (R : ByteArray × Bool) (w : World) (hr : rightB n = true) (hs : n.size ≤ maxLen) (hL : (match labs n.size n with | x :: _ => (x.2, true) | [] => (⟨#[]⟩, false)) = R) :
    Calls Try.prog 21 #[.string n] w fun e w' => e = .returned (.tuple #[.string R.1, .bool R.2]) ∧ Below w.heap.size w w' := by
  have hq := fun W => right_any n W
  rw [hr] at hq
  refine (callsIn_wide (n := 3)).1 ?_
  refine callsIn_of_wp_marks Try.func21 rfl trivial ?_ rfl
  simp only [Try.ntmps21, List.size_toArray, List.length_cons, List.length_nil, Nat.reduceAdd, Nat.reduceSub, Array.replicate_succ, Array.replicate_zero, List.push_toArray, List.append_toArray, List.nil_append, List.cons_append]
  gi_wp2_with (first | (refine ⟨trivial, ?_⟩; gi_at_call 19; refine (callsIn_wide.2 (hq _)).mono ?_; rintro e w1 ⟨rfl, hb1⟩) | (refine ⟨trivial, ?_⟩; gi_at_call 25; refine (labels_in n _).mono ?_; rintro e w' ⟨rfl, rfl⟩))
  have hz : w.heap.size + 1 + 1 ≤ w1.heap.size := by have := hb1.size; simp at this; omega
  have h0 : Below w.heap.size w ((w.alloc (.cells #[.string ⟨#[]⟩] 9)).alloc (.cells #[.bool false] 4)) := ((Below.refl _ w).alloc (Nat.le_refl _) _).alloc (by simp) _
  have hB0 : Below w.heap.size w (w1.alloc (.cells #[.string n] 9)) := (h0.trans (hb1.mono (by simp; omega))).alloc (by omega) _
  have c1 : (w1.alloc (.cells #[.string n] 9)).heap[w.heap.size]? = some (.cells #[.string ⟨#[]⟩] 9 (0, 0)) := blk_alloc (blk_below (blk_alloc (blk_new w _) _) hb1) _
  have c2 : (w1.alloc (.cells #[.string n] 9)).heap[w.heap.size + 1]? = some (.cells #[.bool false] 4 (0, 0)) := blk_alloc (blk_below (by have := blk_new (w.alloc (.cells #[.string ⟨#[]⟩] 9)) (.cells #[.bool false] 4); rwa [World.size_alloc] at this) hb1) _
  have b2 : (w1.alloc (.cells #[.string n] 9)).heap[w1.heap.size]? = some (.cells #[.string n] 9 (0, 0)) := blk_new w1 _
  refine Box.rangeFunc (gf := 31) (lb := #[.pointer (some ⟨w1.heap.size, 0, none⟩)]) rfl (enters_of Try.func31 (by kernel_rfl) rfl) (fun _ => rfl) (Bn := w1.heap.size) (by simp)
    (stops w1.heap.size n _ b2 hs)
    (fun pre W => (W.heap[w.heap.size]? = some (.cells #[.string ⟨#[]⟩] 9 (0, 0)) ∧ W.heap[w.heap.size + 1]? = some (.cells #[.bool false] 4 (0, 0)) ∧ Below w.heap.size w W) ∧ pre = [])
    (fun c pre W => (W.heap[w.heap.size]? = some (.cells #[.string (endIn n pre)] 9 (0, 0)) ∧ W.heap[w.heap.size + 1]? = some (.cells #[.bool true] 4 (0, 0)) ∧ Below w.heap.size w W) ∧ c = .ret ∧ ∃ x, pre = [x])
    (abide_and (abide_and (abide_box (f := fun _ => .string ⟨#[]⟩) (by omega)) (abide_and (abide_box (f := fun _ => .bool false) (by omega)) (abide_below (Nat.le_refl _) (by simp; omega) (by omega)))) (fun _ _ _ _ h _ _ => h))
    (fun c => abide_and (abide_and (abide_box (f := fun pre => .string (endIn n pre)) (by omega)) (abide_and (abide_box (f := fun _ => .bool true) (by omega)) (abide_below (Nat.le_refl _) (by simp; omega) (by omega)))) (fun _ _ _ _ h _ _ => h))
    ⟨⟨c1, c2, hB0⟩, rfl⟩
    (fun x => { tmps := #[.string n, undef, .pointer (some ⟨w.heap.size, 0, none⟩), .pointer (some ⟨w.heap.size + 1, 0, none⟩), undef, .string x.2, .string n, .bool true, .bool false, .string n, .func (.func 31) #[] #[.pointer (some ⟨w1.heap.size, 0, none⟩)], .string x.1, .string x.2, undef], defers := [] }) ?assign ?body ?done ?stop
  case assign =>
    intro l x W K hK
    gi_wp2
    exact hK
  case body =>
    rintro l pre x W ⟨⟨e1, e2, hB⟩, rfl⟩ hpre
    have d1 : W.cell? ⟨w.heap.size, 0, none⟩ = some (.string ⟨#[]⟩) := blk_cell e1 0
    have d2 : W.cell? ⟨w.heap.size + 1, 0, none⟩ = some (.bool false) := blk_cell e2 0
    have f1 := blk_frozen e1 0
    have f2 := blk_frozen e2 0
    gi_wp2
    refine ⟨(KeepsOthers.setCell _ _ _).trans (KeepsOthers.setCell _ _ _), ⟨?_, ?_, (hB.setCell (p := ⟨w.heap.size, 0, none⟩) (Nat.le_refl _) _).setCell (p := ⟨w.heap.size + 1, 0, none⟩) (by simp) _⟩, rfl, x, rfl⟩
    · rw [endIn_snoc]; exact blk_far (blk_set e1 0 _) (p := ⟨w.heap.size + 1, 0, none⟩) (by show w.heap.size ≠ w.heap.size + 1; omega) _
    · exact blk_set (blk_far e2 (p := ⟨w.heap.size, 0, none⟩) (by show w.heap.size + 1 ≠ w.heap.size; omega) _) 0 _
  case done =>
    rintro D W hD ⟨⟨e1, e2, hB⟩, hnil⟩ hK
    rw [hnil] at hL
    subst hL
    have d1 : W.cell? ⟨w.heap.size, 0, none⟩ = some (.string ⟨#[]⟩) := blk_cell e1 0
    have d2 : W.cell? ⟨w.heap.size + 1, 0, none⟩ = some (.bool false) := blk_cell e2 0
    have f1 := blk_frozen e1 0
    have f2 := blk_frozen e2 0
    gi_wp2
    have hne1 : D ≠ w.heap.size := fun h => by rw [h, e1] at hK; cases hK
    have hne2 : D ≠ w.heap.size + 1 := fun h => by rw [h, e2] at hK; cases hK
    have s1 := blk_set e1 0 (.string ⟨#[]⟩)
    have s2 := blk_far e2 (p := ⟨w.heap.size, 0, none⟩) (by show w.heap.size + 1 ≠ w.heap.size; omega) (.string ⟨#[]⟩)
    have s3 := blk_far s1 (p := ⟨w.heap.size + 1, 0, none⟩) (by show w.heap.size ≠ w.heap.size + 1; omega) (.bool false)
    have s4 := blk_set s2 0 (.bool false)
    have hK' := ((KeepsOthers.setCell W ⟨w.heap.size, 0, none⟩ (.string ⟨#[]⟩)).trans (KeepsOthers.setCell _ ⟨w.heap.size + 1, 0, none⟩ (.bool false))).same D _ hK rfl
    refine ⟨by simp, .inl ⟨_, _, rfl, run_takeDeferred hK', ?_⟩⟩
    have g1 := blk_cell ((World.putObj_heap_other (w := (W.setCell ⟨w.heap.size, 0, none⟩ (.string ⟨#[]⟩)).setCell ⟨w.heap.size + 1, 0, none⟩ (.bool false)) (r := D) (o := .deferred none) (by omega)).trans s3) 0
    have g2 := blk_cell ((World.putObj_heap_other (w := (W.setCell ⟨w.heap.size, 0, none⟩ (.string ⟨#[]⟩)).setCell ⟨w.heap.size + 1, 0, none⟩ (.bool false)) (r := D) (o := .deferred none) (by omega)).trans s4) 0
    refine ⟨.tuple #[.string ⟨#[]⟩, .bool false], ?_, rfl, ((hB.setCell (p := ⟨w.heap.size, 0, none⟩) (Nat.le_refl _) _).setCell (p := ⟨w.heap.size + 1, 0, none⟩) (by simp) _).trans (belowK_b (w := w) (Nat.le_refl _) _ D _ _ (by simp at hD; omega) hK' rfl rfl)⟩
    simp [results, Try.f21, go_sem, g1, g2]
  case stop =>
    rintro D c pre W hD hpre ⟨⟨e1, e2, hB⟩, rfl, x, rfl⟩ hK
    obtain ⟨t, ht⟩ := hpre
    rw [← ht] at hL
    simp only [List.cons_append, List.nil_append] at hL
    subst hL
    gi_wp2
    refine ⟨by simp, .inl ⟨_, _, rfl, run_takeDeferred hK, ?_⟩⟩
    have hne1 : D ≠ w.heap.size := fun h => by rw [h, e1] at hK; cases hK
    have hne2 : D ≠ w.heap.size + 1 := fun h => by rw [h, e2] at hK; cases hK
    have g1 := blk_cell ((World.putObj_heap_other (w := W) (r := D) (o := .deferred none) (by omega)).trans e1) 0
    have g2 := blk_cell ((World.putObj_heap_other (w := W) (r := D) (o := .deferred none) (by omega)).trans e2) 0
    refine ⟨_, ?_, rfl, hB.trans (belowK_b (w := w) (Nat.le_refl _) W D _ _ (by simp at hD; omega) hK rfl rfl)⟩
    simp [results, Try.f21, go_sem, g1, g2, endIn]

/-- Parent. -/
def parentR (n : ByteArray) : ByteArray × Bool := if rightB n = true then (match labs n.size n with | x :: _ => (x.2, true) | [] => (⟨#[]⟩, false)) else (⟨#[]⟩, false)
theorem parent_any (n : ByteArray) (w : World) : Calls Try.prog 21 #[.string n] w fun e w' => e = .returned (.tuple #[.string (parentR n).1, .bool (parentR n).2]) ∧ Below w.heap.size w w' := by
  by_cases hr : rightB n = true
  · have hs : n.size ≤ maxLen := by
      unfold rightB at hr
      have := of_decide_eq_true (Bool.and_eq_true_iff.mp hr).1
      unfold maxLen; omega
    refine parent_yes n _ w hr hs ?_
    unfold parentR; rw [if_pos hr]
  · have := parent_no n w (Bool.eq_false_iff.mpr hr)
    unfold parentR; rw [if_neg hr]; exact this
end Go.Proofs.Ytekbecpcbfhdmaa.Name
/- What the packer's Name puts, in plain words. -/
namespace Go.Proofs.Ytekbecpcbfhdmaa.Pack
open Go.RowKit Go.Proofs.YtekbecpcbfhdmaaW.PrintWords Go.Proofs.Ytekbecpcbfhdmaa.Oct Go.Proofs.Ytekbecpcbfhdmaa.Name
/-- A name without its first label; that label with its number. -/
def par (n : ByteArray) : ByteArray := (parentR n).1
def head (n : ByteArray) : ByteArray := n.extract 0 (n.size - (par n).size)
theorem list_root {n : ByteArray} (h : (n.toList == [0]) = true) : n = rootB := by
  by_cases hn : n = rootB
  · exact hn
  · have := list_ne (l := [0]) hn
    rw [this] at h; cases h
theorem right_size {n : ByteArray} (h : rightB n = true) : n.size ≤ 255 := by
  unfold rightB at h
  exact of_decide_eq_true (Bool.and_eq_true_iff.mp h).1
/-- A name but the root: its first label, and what is behind. -/
theorem right_step {n : ByteArray} (h : rightB n = true) (hn : ¬ n = rootB) : ∃ s r, cutOf n 1 = some (s, r) ∧ ¬ (s.size = 0 ∨ 63 < s.size) ∧ labs n.size n = (s, r) :: labs r.size r ∧ rightB r = true ∧ par n = r ∧ r.size < n.size := by
  have hsz := right_size h
  have he : (endIn n (labs n.size n)).toList == [0] := (Bool.and_eq_true_iff.mp h).2
  have hnil : labs n.size n ≠ [] := by
    intro e
    rw [e] at he
    exact hn (list_root he)
  cases hc : cutOf n 1 with
  | none => exact absurd (labs_none hc) hnil
  | some x =>
    obtain ⟨s, r⟩ := x
    by_cases hs : s.size = 0 ∨ 63 < s.size
    · exact absurd (labs_bad hc hs) hnil
    · have hl := labs_cons hn hc hs
      have hlt := cut_less hc
      refine ⟨s, r, rfl, hs, hl, ?_, ?_, hlt⟩
      · unfold rightB
        rw [Bool.and_eq_true_iff]
        refine ⟨decide_eq_true (by omega), ?_⟩
        rw [hl] at he
        have e : endIn n ((s, r) :: labs r.size r) = endIn r (labs r.size r) := by
          unfold endIn
          cases hL : labs r.size r with
          | nil => rfl
          | cons y l => rw [List.getLast?_cons_cons, List.getLast?_eq_some_getLast (List.cons_ne_nil y l)]
        rw [e] at he; exact he
      · unfold par parentR
        rw [if_pos h, hl]
theorem right_root : rightB rootB = true := by decide +kernel
theorem par_size {n : ByteArray} (h : rightB n = true) (hn : ¬ n = rootB) : (par n).size < n.size := by
  obtain ⟨s, r, _, _, _, _, e, hlt⟩ := right_step h hn
  rw [e]; exact hlt
theorem par_right {n : ByteArray} (h : rightB n = true) (hn : ¬ n = rootB) : rightB (par n) = true := by
  obtain ⟨s, r, _, _, _, hr, e, hlt⟩ := right_step h hn
  rw [e]; exact hr
theorem par_yes {n : ByteArray} (h : rightB n = true) (hn : ¬ n = rootB) : parentR n = (par n, true) := by
  obtain ⟨s, r, _, _, hl, hr, e, hlt⟩ := right_step h hn
  rw [e]; unfold parentR; rw [if_pos h, hl]
theorem head_size (n : ByteArray) : (head n).size = n.size - (par n).size := by unfold head; simp
abbrev St := List UInt8 × List (ByteArray × Nat)
/-- What Name puts: behind the bytes bs, with K known. -/
def putN : Nat → ByteArray → Bool → St → St
  | 0, _, _, S => (S.1 ++ [0], S.2)
  | k + 1, n, may, S => if n = rootB then (S.1 ++ [0], S.2) else
    match look S.2 n with
    | some q => if may = true then (S.1 ++ beB 2 (49152 + q), S.2) else putN k (par n) may (S.1 ++ (head n).data.toList, S.2)
    | none => putN k (par n) may (S.1 ++ (head n).data.toList, if S.1.length < 16384 then (n, S.1.length) :: S.2 else S.2)
def putName (n : ByteArray) (may : Bool) (S : St) : St := putN n.size n may S
theorem putN_root (k : Nat) (may : Bool) (S : St) : putN k rootB may S = (S.1 ++ [0], S.2) := by cases k <;> simp [putN]
theorem putN_up (may : Bool) : ∀ (k : Nat) (n : ByteArray) (S : St), rightB n = true → n.size ≤ k → putN k n may S = putN n.size n may S := by
  intro k
  induction k using Nat.strongRecOn with
  | _ k ih =>
    intro n S hr hk
    by_cases hn : n = rootB
    · subst hn; rw [putN_root, putN_root]
    · have hp := par_size hr hn
      have hpr := par_right hr hn
      obtain ⟨j, rfl⟩ : ∃ j, k = j + 1 := ⟨k - 1, by omega⟩
      obtain ⟨m, hm⟩ : ∃ m, n.size = m + 1 := ⟨n.size - 1, by omega⟩
      rw [hm, putN, putN, if_neg hn, if_neg hn]
      have e : ∀ S', putN j (par n) may S' = putN m (par n) may S' := by
        intro S'
        rw [ih j (by omega) (par n) S' hpr (by omega)]
        by_cases hmj : m < j + 1
        · rw [ih m hmj (par n) S' hpr (by omega)]
        · omega
      cases look S.2 n with
      | none => simp only [e]
      | some q => simp only [e]
/-- One round. -/
theorem putName_step {n : ByteArray} (may : Bool) (S : St) (hr : rightB n = true) (hn : ¬ n = rootB) : putName n may S =
    match look S.2 n with
    | some q => if may = true then (S.1 ++ beB 2 (49152 + q), S.2) else putName (par n) may (S.1 ++ (head n).data.toList, S.2)
    | none => putName (par n) may (S.1 ++ (head n).data.toList, if S.1.length < 16384 then (n, S.1.length) :: S.2 else S.2) := by
  have hp := par_size hr hn
  obtain ⟨m, hm⟩ : ∃ m, n.size = m + 1 := ⟨n.size - 1, by omega⟩
  unfold putName
  rw [hm, putN, if_neg hn]
  have e : ∀ S', putN m (par n) may S' = putN (par n).size (par n) may S' := fun S' => putN_up may m (par n) S' (par_right hr hn) (by omega)
  cases look S.2 n with
  | none => simp only [e]
  | some q => simp only [e]
theorem putName_root (may : Bool) (S : St) : putName rootB may S = (S.1 ++ [0], S.2) := putN_root _ _ _
/-- No place is beyond what a pointer can tell; no two names are one. -/
def Small (K : List (ByteArray × Nat)) : Prop := ∀ n i, look K n = some i → i < 16384
theorem small_nil : Small [] := fun n i h => by simp [look] at h
theorem Small.put {K : List (ByteArray × Nat)} (h : Small K) {n : ByteArray} {i : Nat} (hi : i < 16384) : Small ((n, i) :: K) := by
  intro m j hj
  simp only [look] at hj
  by_cases hm : m = n
  · rw [if_pos hm] at hj; injection hj with hj; omega
  · rw [if_neg hm] at hj; exact h m j hj
end Go.Proofs.Ytekbecpcbfhdmaa.Pack
/- The contract of Split's closure: number by number, till a width finds too few bytes. No condition but sizes that a string and a slice can have. -/
namespace Go.Proofs.Ytekbecpcbfhdmaa.Oct
open Go.RowKit Go.Proofs.YtekbecpcbfhdmaaW.PrintWords Go.Proofs.YtekbecpcbfhdmaaW.PrintLast Go.Proofs.Ytekbecpcbfhdmaa.UpdWords

/-- The numbers of such widths that bytes begin with, behind those that were read, and what is left. -/
def splitL : ByteArray → List Int → List Int → Option (List Int × ByteArray)
  | b, [], acc => some (acc, b)
  | b, n :: ws, acc => if n.toNat ≤ b.size then splitL (b.extract n.toNat b.size) ws (acc ++ [(beN (b.data.toList.take n.toNat) : Int)]) else none

theorem R_upd {S ok : Nat → Prop} {α : Type} {d : Kd α} {e base : Nat} {W W' : World} {v : Value} {xs : List α} (h : d.R e W base ok v xs) (hu : Upd S W W') (hs : ∀ k, ok k → ¬ S k) : d.R e W' base ok v xs :=
  Kd.R_step h (fun k ho hlt => hu.block k hlt (hs k ho))
theorem info_u64 : (Try.prog.info? 53).map (fun i => (i.zero, i.size, i.bytes)) = some (some (.int .u64 0), 1, 8) := by kernel_rfl

/-- What is held at the head of a round of Split's closure. -/
structure Round (B N g go : Nat) (w0 wr : World) (b : ByteArray) (v : Value) (xs : List Int) : Prop where
  rd : Rd wr g b
  out : wr.heap[go]? = some (.cells #[v] 54 (0, 0))
  own : (Kd.int .u64).R 53 wr B (fun k => k ≠ g ∧ k ≠ go ∧ N ≤ k) v xs
  below : Below B w0 wr

/-- How Split's closure ends. -/
def SplitEnd (B g go : Nat) (w0 w : World) (T : Option (List Int × ByteArray)) (e : Ending) (w' : World) : Prop :=
  Upd (fun k => k = g ∨ k = go) w w' ∧ match T with
    | some (xs, r) => e = .returned (.tuple #[]) ∧ ∃ v', Round B w.heap.size g go w0 w' r v' xs
    | none => e = .panicked short

theorem round_next {B N g go : Nat} {w0 w2 w3 : World} {b2 : ByteArray} {v1 : Value} {ys : List Int} {A : Option Addr} {m c : Nat} (hb2 : Rd w2 g b2) (ho2 : w2.heap[go]? = some (.cells #[v1] 54 (0, 0)))
    (own3 : (Kd.int .u64).R 53 w3 B (fun k => k ≠ g ∧ k ≠ go ∧ N ≤ k) (.slice A m c) ys) (hb3 : Below B w0 w3) (hg3 : w2.grownBy w3 v1.ownBlock) (hv1 : ∀ k, v1.ownBlock = some k → k ≠ g ∧ k ≠ go ∧ N ≤ k) (hgo : g ≠ go) (hB : B ≤ go) :
    Round B N g go w0 (w3.setCell ⟨go, 0, none⟩ (.slice A m c)) b2 (.slice A m c) ys := by
  refine ⟨blk_far (blk_grown hb2 hg3 (fun e => (hv1 g e.symm).1 rfl)) (by show g ≠ go; exact hgo) _, blk_set (blk_grown ho2 hg3 (fun e => (hv1 go e.symm).2.1 rfl)) 0 _, R_upd own3 ((Upd.refl (· = go) w3).set go 0 _ (.inl rfl)) (fun k h e => h.2.1 e), ?_⟩
  exact Below.setCell hb3 (by show B ≤ go; exact hB) _
theorem upd_next {g go : Nat} {w wr w2 w3 : World} {v1 x : Value} (h : Upd (fun k => k = g ∨ k = go) w wr) (h2 : Upd (· = g) wr w2) (hg3 : w2.grownBy w3 v1.ownBlock) (hv1 : ∀ k, v1.ownBlock = some k → w.heap.size ≤ k) : Upd (fun k => k = g ∨ k = go) w (w3.setCell ⟨go, 0, none⟩ x) :=
  ((h.trans h2 (fun _ e => .inl (.inl e))).grown hg3 (fun k e => .inr (hv1 k e))).set go 0 _ (.inl (.inr rfl))
theorem split_next {b1 : ByteArray} {n : Int} {ws xs : List Int} {T : Option (List Int × ByteArray)} (h : splitL b1 (n :: ws) xs = T) (hn : n.toNat ≤ b1.size) : splitL (b1.extract n.toNat b1.size) ws (xs ++ [(beN (b1.data.toList.take n.toNat) : Int)]) = T := by
  rw [splitL, if_pos hn] at h; exact h
theorem split_short_end {B g go : Nat} {w0 w w' : World} {T : Option (List Int × ByteArray)} (hT : T = none) (h : Upd (fun k => k = g ∨ k = go) w w') : SplitEnd B g go w0 w T (.panicked short) w' := by
  subst hT; exact ⟨h, rfl⟩
theorem split_ok_end {B g go : Nat} {w0 w w' : World} {T : Option (List Int × ByteArray)} {b1 : ByteArray} {xs : List Int} {v : Value} (hT : splitL b1 [] xs = T) (hr : Round B w.heap.size g go w0 w' b1 v xs) (h : Upd (fun k => k = g ∨ k = go) w w') : SplitEnd B g go w0 w T (.returned (.tuple #[])) w' := by
  subst hT; exact ⟨h, rfl, v, hr⟩
/-- A way that has ended by a panic, told to the walk of a region as one that goes on over no operation. -/
theorem closed_way {p : Prop} (h : p) (w : World) (_ : wpAny Try.prog .any #[] (fun _ _ _ => True) 0 #[] { tmps := #[], defers := [] } w) : p := h
theorem drop_le (b : ByteArray) (n : Nat) (h : b.size ≤ maxLen) : (b.extract n b.size).size ≤ maxLen := by rw [drop_size]; omega

attribute [local go_sem ↓] Go.wp_at_zero Go.wp_at_succ
set_option maxHeartbeats 1600000 in
set_option maxRecDepth 100000 in
theorem split1 (B g gw go : Nat) (b : ByteArray) (A : Option Addr) (c : Nat) (l : List Int) (v : Value) (w0 w : World) (T : Option (List Int × ByteArray)) (hT : splitL b l [] = T)
    (hr : Round B w.heap.size g go w0 w b v []) (hgw : w.cell? ⟨gw, 0, none⟩ = some (.slice A l.length c)) (hgo : g ≠ go) (hB : B ≤ g) (hB2 : B ≤ go)
    (hl : ∀ W, Upd (fun k => k = g ∨ k = go) w W → (Kd.int .i64).C W A l.length l) (hw : ∀ n ∈ l, 0 ≤ n ∧ n ≤ 8) (hlen : l.length < 17592186044416) (hs : b.size ≤ maxLen) :
    Calls Try.prog 37 #[.pointer (some ⟨g, 0, none⟩), .pointer (some ⟨gw, 0, none⟩), .pointer (some ⟨go, 0, none⟩)] w fun e w' =>
      SplitEnd B g go w0 w T e w' := by
  have HT := Lib.hid hT; clear hT
  have HR := Lib.hid hr; clear hr
  have HL := Lib.hid hl; clear hl
  have HW := Lib.hid hw; clear hw
  go_enter Try.func37, Try.ntmps37
  go_wp2_with fail
  go_loopw [8] (fun i wr => ∃ (k : Nat) (b1 : ByteArray) (v1 : Value) (xs : List Int), k ≤ l.length ∧ i = .int .i64 k ∧ Hid (xs.length = k ∧ b1.size ≤ maxLen ∧ splitL b1 (l.drop k) xs = T) ∧ Hid (Round B w.heap.size g go w0 wr b1 v1 xs) ∧ Hid (Upd (fun k => k = g ∨ k = go) w wr)) (fun i _ => l.length - (intOf i).toNat)
  case atStart => exact ⟨0, b, v, [], Nat.zero_le _, rfl, Lib.hid ⟨rfl, hs, HT.out⟩, HR, Lib.hid (Upd.refl _ _)⟩
  case round =>
    obtain ⟨k, b1, v1, xs, hk, rfl, H1, H2, H3⟩ := hrel
    by_cases hlt : k < l.length
    · obtain ⟨ad, rfl, hc0⟩ := Kd.at_int (HL.out _ H3.out) (k : Int) (by omega) (by omega)
      have hr : rd l (k : Int) = l[k] := by simp [rd, hlt]
      rw [hr] at hc0
      have hc : wr.cell? (ad.add k) = some (.int .i64 l[k]) := hc0
      clear hc0 hr
      have hn := HW.out l[k] (List.getElem_mem hlt)
      obtain ⟨n0, n8⟩ := hn
      have c1 : wr.cell? ⟨go, 0, none⟩ = some v1 := blk_cell H2.out.out 0
      have f1 := blk_frozen H2.out.out 0
      have HD := Lib.hid (List.drop_eq_getElem_cons hlt)
      generalize l[k] = n at hc n0 n8 HD
      by_cases hfit : n ≤ b1.size
      · go_wp2_with fail
        have hbd : Rd wr.drew g b1 := H2.out.rd
        have hod : wr.drew.heap[go]? = some (.cells #[v1] 54 (0, 0)) := H2.out.out
        have hwd : (Kd.int .u64).R 53 wr.drew B (fun k => k ≠ g ∧ k ≠ go ∧ w.heap.size ≤ k) v1 xs := Kd.R_drew H2.out.own
        have hld : Below B w0 wr.drew := below_drew H2.out.below
        have hxl := H1.out.1
        have hsz : w.heap.size ≤ wr.drew.heap.size := H3.out.size
        have HS := Lib.hid hsz; clear hsz
        have HB := Lib.hid hbd; clear hbd
        have HO := Lib.hid hod; clear hod
        have HV := Lib.hid hwd; clear hwd
        have HE := Lib.hid hld; clear hld
        have HX := Lib.hid hxl; clear hxl
        go_region_law (first | (refine goes_ Try.func38 (by kernel_rfl) rfl #[.pointer (some ⟨g, 0, none⟩), .int .i64 n] (by rfl) (by rfl) (by rfl) (by (try simp only [List.map_toArray, List.map_cons, List.map_nil]); first | done | rfl) ?_; refine (number_ok g b1 n _ HB.out n0 n8 hfit H1.out.2.1).mono ?_; rintro e w2 ⟨rfl, hb2, hu2⟩; refine ⟨_, rfl, ?_⟩; have c2 : w2.cell? ⟨go, 0, none⟩ = some v1 := blk_cell (hu2.heap HO.out (by omega)) 0; have c4 : (w2.alloc (.cells #[.int .u64 (beN (b1.data.toList.take n.toNat) : Int)] 53)).cell? ⟨go, 0, none⟩ = some v1 := blk_cell (alloc_old (hu2.heap HO.out (by omega))) 0) | (refine Kd.R_append_step (Kd.int .u64) (w0 := w0) (W := w2) B (by simp [Region.wanted]) (.tmp 12) (.tmp 16) 54 53 (.int .u64 0) 8 (by rfl) Try.underlying54 info_u64 (by rfl) (by decide) (by omega) v1 xs (beN (b1.data.toList.take n.toNat) : Int) [.int .u64 (beN (b1.data.toList.take n.toNat) : Int)] (fun k => k ≠ g ∧ k ≠ go ∧ w.heap.size ≤ k) (fun _ => False) (by rfl) (by rfl) (by rfl) (fun _ h => h.elim) (fun k hk => ⟨by have := blk_lt hb2; omega, by have := blk_lt (hu2.heap HO.out (by omega)); omega, Nat.le_trans HS.out (Nat.le_trans hu2.size hk)⟩) (R_upd HV.out hu2 (fun k h => h.1)) (hu2.below HE.out (Nat.le_trans hB (Nat.le_of_lt (blk_lt HB.out))) (fun i h => by omega)) (Nat.le_trans hB (Nat.le_of_lt (blk_lt hb2))) (by have := HX.out; omega) ?_; intro v2 w3 ho3 hb3 hg3 hat3; obtain ⟨A2, c2', rfl⟩ := Kd.R_slice ho3; rw [List.length_append, List.length_singleton] at ho3; have f3 : w3.frozen? ⟨go, 0, none⟩ = false := blk_frozen (blk_grown (hu2.heap HO.out (by omega)) hg3 (fun e => (HV.out.1 go e.symm).2.1 rfl)) 0; have c3 : w3.cell? ⟨go, 0, none⟩ = some v1 := blk_cell (blk_grown (hu2.heap HO.out (by omega)) hg3 (fun e => (HV.out.1 go e.symm).2.1 rfl)) 0; have HO3 := Lib.hid ho3; clear ho3; have HB3 := Lib.hid hb3; clear hb3; have HG3 := Lib.hid hg3))
        all_goals
          go_wp2_with fail
          exact ⟨⟨k + 1, b1.extract n.toNat b1.size, _, xs ++ [(beN (b1.data.toList.take n.toNat) : Int)], by omega, by go_num, Lib.hid ⟨by rw [List.length_append, HX.out]; rfl, drop_le _ _ H1.out.2.1, split_next (by rw [← HD.out]; exact H1.out.2.2) (by omega)⟩, Lib.hid (round_next hb2 (hu2.heap HO.out (by omega)) HO3.out HB3.out HG3.out HV.out.1 hgo hB2), Lib.hid (upd_next (H3.out.drew) hu2 HG3.out (fun k e => (HV.out.1 k e).2.2))⟩, by simp [intOf]; omega⟩
      · have hbd : Rd wr.drew g b1 := H2.out.rd
        have HB := Lib.hid hbd; clear hbd
        have HF : Hid (T = none) := Lib.hid (by rw [← H1.out.2.2, HD.out, splitL, if_neg (by omega)])
        have H3d : Hid (Upd (fun k => k = g ∨ k = go) w wr.drew) := Lib.hid H3.out.drew
        go_wp2_with fail
        go_region_with (go_at_call 38; refine (number_short g b1 n _ HB.out (by omega)).mono ?_; rintro e w2 ⟨rfl, hu2⟩; refine closed_way ⟨rfl, split_short_end HF.out (H3d.out.trans hu2 (fun _ e => .inl (.inl e)))⟩ w2 ?_)
        all_goals trivial
    · obtain rfl : k = l.length := by omega
      go_wp2_with fail
      go_end0
      exact split_ok_end (by have := H1.out.2.2; rw [List.drop_of_length_le (Nat.le_refl _)] at this; exact this) H2.out H3.out
end Go.Proofs.Ytekbecpcbfhdmaa.Oct
/- The contracts of reading over Split's closure, of whole, and of Split: ErrArg for what is no width, ErrForm where the bytes aren't there, else the numbers and what is left; no condition but sizes that a string and a slice can have. -/
namespace Go.Proofs.Ytekbecpcbfhdmaa.Oct
open Go.RowKit Go.Proofs.YtekbecpcbfhdmaaW.PrintWords Go.Proofs.YtekbecpcbfhdmaaW.PrintLast Go.Proofs.Ytekbecpcbfhdmaa.UpdWords

set_option maxHeartbeats 400000 in
set_option maxRecDepth 100000 in
theorem reading_split_ok (c1 c2 : Value) (b r : ByteArray) (S : Nat → Prop) (Q : World → Prop) (w : World) (hS : ∀ k, S k → k < w.heap.size) (hQ : ∀ a b, Upd (fun k => k = w.heap.size ∨ k = w.heap.size + 1) a b → Q a → Q b)
    (hcl : Hid (Calls Try.prog 37 #[.pointer (some ⟨w.heap.size + 1 + 1, 0, none⟩), c1, c2] (W3 w b) fun e w' => e = .returned (.tuple #[]) ∧ Rd w' (w.heap.size + 1 + 1) r ∧ Q w' ∧ Upd (fun k => k = w.heap.size + 1 + 1 ∨ S k) (W3 w b) w')) :
    Calls Try.prog 34 #[.string b, .func (.func 37) #[] #[c1, c2]] w fun e w' => e = .returned (.tuple #[.string r, .int .i64 0]) ∧ Q w' ∧ Upd S w w' := by
  have hmf : ∀ (fn : Fn) (first cap : Array Value) (w : World), (Instr.makeFunc fn first cap).run Try.prog w = .ok (.func fn first cap) w := fun _ _ _ _ => rfl
  have HS := Lib.hid hS; clear hS
  have HQ := Lib.hid hQ; clear hQ
  go_enter_defers Try.func34, Try.ntmps34
  go_wp2_with fail
  refine hcl.out.mono ?_
  rintro e w1 ⟨rfl, hb1, hq1, hu1⟩
  have s1 := hu1.heap (three _ _ _).1 (fun h => h.elim (fun h => by omega) (fun h => by have := HS.out _ h; omega))
  have s2 := hu1.heap (three _ _ _).2.1 (fun h => h.elim (fun h => by omega) (fun h => by have := HS.out _ h; omega))
  have c1 : w1.cell? ⟨w.heap.size + 1 + 1, 0, none⟩ = some (.string r) := hb1.cell
  have c2 : w1.cell? ⟨w.heap.size, 0, none⟩ = some (.string ⟨#[]⟩) := blk_cell s1 0
  have f2 := blk_frozen s1 0
  have s3 := blk_far s2 (p := ⟨w.heap.size, 0, none⟩) (by show w.heap.size + 1 ≠ w.heap.size; omega) (.string r)
  have c3 : (w1.setCell ⟨w.heap.size, 0, none⟩ (.string r)).cell? ⟨w.heap.size + 1, 0, none⟩ = some (.int .i64 0) := blk_cell s3 0
  have f3 := blk_frozen s2 0
  have S1 := Lib.hid s1; clear s1
  have S3 := Lib.hid s3; clear s3
  clear s2
  have HX := Lib.hid hq1; clear hq1
  have HU := Lib.hid ((W3_upd w b S).trans hu1 (fun i h => h.elim (fun h => .inr (by omega)) .inl)); clear hu1
  go_wp2_with fail
  have hr := door_ok (v0 := .string ⟨#[]⟩) (v1 := .int .i64 0) (.string r) (.int .i64 0) S1.out S3.out HX.out HQ.out HU.out
  generalize (w1.setCell ⟨w.heap.size, 0, none⟩ (.string r)).setCell ⟨w.heap.size + 1, 0, none⟩ (.int .i64 0) = W at hr
  obtain ⟨r1, r2, r3, r4⟩ := hr
  refine leaves_cons (f := 39) (args := #[.pointer (some ⟨w.heap.size, 0, none⟩), .pointer (some ⟨w.heap.size + 1, 0, none⟩)]) (by simp) (by simp [go_sem]) ?_
  refine (catch_idle _ _ _).mono ?_
  rintro e u' w'' ⟨rfl, rfl, rfl⟩
  have R3 := Lib.hid r3
  clear r3
  simp [Leaves, settle, results, Try.results34, go_sem, r1, r2]
  exact ⟨R3.out, r4⟩

set_option maxHeartbeats 400000 in
set_option maxRecDepth 100000 in
theorem reading_split_short (c1 c2 : Value) (b : ByteArray) (S : Nat → Prop) (w : World) (hS : ∀ k, S k → k < w.heap.size)
    (hcl : Hid (Calls Try.prog 37 #[.pointer (some ⟨w.heap.size + 1 + 1, 0, none⟩), c1, c2] (W3 w b) fun e w' => e = .panicked short ∧ Upd (fun k => k = w.heap.size + 1 + 1 ∨ S k) (W3 w b) w')) :
    Calls Try.prog 34 #[.string b, .func (.func 37) #[] #[c1, c2]] w fun e w' => e = .returned (.tuple #[.string ⟨#[]⟩, .int .i64 2]) ∧ Upd S w w' := by
  have hmf : ∀ (fn : Fn) (first cap : Array Value) (w : World), (Instr.makeFunc fn first cap).run Try.prog w = .ok (.func fn first cap) w := fun _ _ _ _ => rfl
  have HS := Lib.hid hS; clear hS
  go_enter_defers Try.func34, Try.ntmps34
  go_wp2_with fail
  refine hcl.out.mono ?_
  rintro e w1 ⟨rfl, hu1⟩
  have s1 := hu1.heap (three _ _ _).1 (fun h => h.elim (fun h => by omega) (fun h => by have := HS.out _ h; omega))
  have s2 := hu1.heap (three _ _ _).2.1 (fun h => h.elim (fun h => by omega) (fun h => by have := HS.out _ h; omega))
  have S1 := Lib.hid s1; clear s1
  have S2 := Lib.hid s2; clear s2
  have HU := Lib.hid ((W3_upd w b S).trans hu1 (fun i h => h.elim (fun h => .inr (by omega)) .inl)); clear hu1
  go_wp2_with fail
  refine leaves_cons (f := 39) (args := #[.pointer (some ⟨w.heap.size, 0, none⟩), .pointer (some ⟨w.heap.size + 1, 0, none⟩)]) (by simp) (by simp [go_sem]) ?_
  refine (catch_short w.heap.size (w.heap.size + 1) ⟨#[]⟩ 0 [] w1 (by omega) S1.out S2.out).mono ?_
  rintro e u' w2 ⟨rfl, rfl, r1, r2, r4⟩
  have r1 : w2.cell? ⟨w.heap.size, 0, none⟩ = some (.string ⟨#[]⟩) := blk_cell r1 0
  have r2 : w2.cell? ⟨w.heap.size + 1, 0, none⟩ = some (.int .i64 2) := blk_cell r2 0
  have R4 := Lib.hid (HU.out.trans r4 (fun i h => .inr (by omega))); clear r4
  simp [Leaves, settle, results, Try.results34, go_sem, r1, r2]
  exact R4.out

def isWidth (n : Int) : Bool := decide (n = 1 ∨ n = 2 ∨ n = 4 ∨ n = 8)
set_option maxHeartbeats 400000 in
set_option maxRecDepth 100000 in
theorem width_any (n : Int) (w : World) (x : Bool) (h : isWidth n = x) : Calls Try.prog 32 #[.int .i64 n] w fun e w' => e = .returned (.bool x) ∧ w = w' := by
  unfold isWidth at h
  by_cases h1 : n = 1
  · subst h h1; go_enter Try.func32, Try.ntmps32; go_wp2; go_ret; exact ⟨by simp, rfl⟩
  by_cases h2 : n = 2
  · subst h h2; go_enter Try.func32, Try.ntmps32; go_wp2; go_ret; exact ⟨by simp, rfl⟩
  by_cases h4 : n = 4
  · subst h h4; go_enter Try.func32, Try.ntmps32; go_wp2; go_ret; exact ⟨by simp, rfl⟩
  by_cases h8 : n = 8
  · subst h h8; go_enter Try.func32, Try.ntmps32; go_wp2; go_ret; exact ⟨by simp, rfl⟩
  subst h
  have e1 : (n == 1) = false := beq_eq_false_iff_ne.mpr h1
  have e2 : (n == 2) = false := beq_eq_false_iff_ne.mpr h2
  have e4 : (n == 4) = false := beq_eq_false_iff_ne.mpr h4
  have e8 : (n == 8) = false := beq_eq_false_iff_ne.mpr h8
  go_enter Try.func32, Try.ntmps32
  go_wp2
  go_ret
  exact ⟨by simp [h1, h2, h4, h8], rfl⟩

set_option maxHeartbeats 400000 in
set_option maxRecDepth 100000 in
theorem whole_any (A : Option Addr) (c : Nat) (l : List Int) (w : World) (x : Bool) (hr : (Kd.int .i64).C w A l.length l) (h : l.all isWidth = x) :
    Calls Try.prog 26 #[.slice A l.length c] w fun e w' => e = .returned (.bool x) ∧ w = w' := by
  have hmax := Kd.C_max hr
  have H := Lib.hid h; clear h
  go_enter Try.func26, Try.ntmps26
  go_wp2_with fail
  go_loop [7] (fun i => ∃ k : Nat, k ≤ l.length ∧ i = .int .i64 k ∧ Hid ((l.take k).all isWidth = true)) (fun i => l.length - (intOf i).toNat)
  case atStart => exact ⟨0, Nat.zero_le _, rfl, Lib.hid rfl⟩
  case round =>
    obtain ⟨k, hk, rfl, H1⟩ := hrel
    by_cases hlt : k < l.length
    · obtain ⟨ad, rfl, hc0⟩ := Kd.at_int hr (k : Int) (by omega) (by omega)
      have hrd : rd l (k : Int) = l[k] := by simp [rd, hlt]
      rw [hrd] at hc0
      have hc : w.cell? (ad.add k) = some (.int .i64 l[k]) := hc0
      clear hc0 hrd
      have H2 : Hid (l.take (k + 1) = l.take k ++ [l[k]]) := Lib.hid (List.take_succ_eq_append_getElem hlt)
      have H3 : Hid (l[k] ∈ l) := Lib.hid (List.getElem_mem hlt)
      generalize l[k] = n at hc H2 H3
      cases hw : isWidth n with
      | true =>
        have HW := Lib.hid hw; clear hw
        go_wp2_with fail
        refine (width_any n _ true HW.out).mono ?_
        rintro e w' ⟨rfl, rfl⟩
        go_wp2_with fail
        exact ⟨⟨k + 1, by omega, by go_num, Lib.hid (by rw [H2.out, List.all_append, H1.out]; simp [HW.out])⟩, by simp [intOf]; omega⟩
      | false =>
        have HW := Lib.hid hw; clear hw
        have HX : Hid (x = false) := Lib.hid (by
          rw [← H.out, Bool.eq_false_iff]
          intro ha
          rw [List.all_eq_true] at ha
          rw [ha n H3.out] at HW
          exact absurd HW.out (by simp))
        go_wp2_with fail
        refine (width_any n _ false HW.out).mono ?_
        rintro e w' ⟨rfl, rfl⟩
        go_wp2_with fail
        go_ret
        exact ⟨by rw [HX.out]; rfl, rfl⟩
    · obtain rfl : k = l.length := by omega
      have HX : Hid (x = true) := Lib.hid (by rw [← H.out, ← H1.out, List.take_of_length_le (Nat.le_refl _)])
      go_wp2_with fail
      go_ret
      exact ⟨by rw [HX.out]; rfl, rfl⟩


set_option maxHeartbeats 400000 in
set_option maxRecDepth 100000 in
theorem Split_arg (b : ByteArray) (A : Option Addr) (c : Nat) (l : List Int) (w : World) (hr : (Kd.int .i64).C w A l.length l) (h : l.all isWidth = false) :
    Calls Try.prog 30 #[.string b, .slice A l.length c] w fun e w' => e = .returned (.tuple #[.slice none 0 0, .string ⟨#[]⟩, .int .i64 1]) ∧ Below w.heap.size w w' := by
  have H := Lib.hid h; clear h
  go_enter Try.func30, Try.ntmps30
  go_wp2_with fail
  refine (whole_any A c l _ false (Kd.C_alloc hr _) H.out).mono ?_
  rintro e w1 ⟨rfl, rfl⟩
  go_wp2_with fail
  go_ret3
  exact ⟨rfl, below_alloc (Below.refl _ _) _⟩

theorem widths_in {l : List Int} (h : l.all isWidth = true) : ∀ n ∈ l, 0 ≤ n ∧ n ≤ 8 := by
  intro n hn
  have := List.all_eq_true.mp h n hn
  unfold isWidth at this
  have := of_decide_eq_true this
  omega

/-- What Split's closure has to begin with. -/
theorem split1_at (b : ByteArray) (A : Option Addr) (c : Nat) (l : List Int) (w : World) (T : Option (List Int × ByteArray)) (hT : splitL b l [] = T) (hr : (Kd.int .i64).C w A l.length l) (hw : ∀ n ∈ l, 0 ≤ n ∧ n ≤ 8) (hlen : l.length < 17592186044416) (hs : b.size ≤ maxLen) :
    Calls Try.prog 37 #[.pointer (some ⟨((w.alloc (.cells #[.slice A l.length c] 43 (0, 0))).alloc (.cells #[.slice none 0 0] 54 (0, 0))).heap.size + 1 + 1, 0, none⟩), .pointer (some ⟨w.heap.size, 0, none⟩), .pointer (some ⟨w.heap.size + 1, 0, none⟩)] (W3 ((w.alloc (.cells #[.slice A l.length c] 43 (0, 0))).alloc (.cells #[.slice none 0 0] 54 (0, 0))) b) fun e w' =>
      SplitEnd w.heap.size (w.heap.size + 2 + 1 + 1) (w.heap.size + 1) w (W3 ((w.alloc (.cells #[.slice A l.length c] 43 (0, 0))).alloc (.cells #[.slice none 0 0] 54 (0, 0))) b) T e w' := by
  obtain ⟨t1, t2⟩ := two2 (w := w) (.cells #[.slice A l.length c] 43 (0, 0)) (.cells #[.slice none 0 0] 54 (0, 0))
  have hb2 : Below w.heap.size w ((w.alloc (.cells #[.slice A l.length c] 43 (0, 0))).alloc (.cells #[.slice none 0 0] 54 (0, 0))) := below_alloc (below_alloc (Below.refl _ _) _) _
  have hsz : ((w.alloc (.cells #[.slice A l.length c] 43 (0, 0))).alloc (.cells #[.slice none 0 0] 54 (0, 0))).heap.size = w.heap.size + 2 := by simp
  generalize ((w.alloc (.cells #[.slice A l.length c] 43 (0, 0))).alloc (.cells #[.slice none 0 0] 54 (0, 0))) = W at t1 t2 hb2 hsz
  have hbW : Below w.heap.size w (W3 W b) := Upd.below hb2 (W3_upd W b (fun _ => False)) (by omega) (fun _ h => h.elim)
  have hrd := W3_rd W b
  rw [hsz] at hrd ⊢
  exact split1 w.heap.size (w.heap.size + 2 + 1 + 1) w.heap.size (w.heap.size + 1) b A c l (.slice none 0 0) w (W3 W b) T hT
    ⟨hrd, W3_heap b t2, Kd.R_nil _ _ _ _ _, hbW⟩ (blk_cell (W3_heap b t1) 0) (by omega) (by omega) (by omega)
    (fun V hV => Kd.C_below hr (Upd.below hbW hV (by rw [W3_size]; omega) (fun i h => by omega))) hw hlen hs

set_option maxHeartbeats 400000 in
set_option maxRecDepth 100000 in
theorem Split_short (b : ByteArray) (A : Option Addr) (c : Nat) (l : List Int) (w : World) (hr : (Kd.int .i64).C w A l.length l) (h : l.all isWidth = true) (hlen : l.length < 17592186044416) (hs : b.size ≤ maxLen) (hT : splitL b l [] = none) :
    Calls Try.prog 30 #[.string b, .slice A l.length c] w fun e w' => e = .returned (.tuple #[.slice none 0 0, .string ⟨#[]⟩, .int .i64 2]) ∧ Below w.heap.size w w' := by
  have hmf : ∀ (fn : Fn) (first cap : Array Value) (w : World), (Instr.makeFunc fn first cap).run Try.prog w = .ok (.func fn first cap) w := fun _ _ _ _ => rfl
  have H := Lib.hid h; clear h
  have HT := Lib.hid hT; clear hT
  go_enter Try.func30, Try.ntmps30
  go_wp2_with fail
  refine (whole_any A c l _ true (Kd.C_alloc hr _) H.out).mono ?_
  rintro e w1 ⟨rfl, rfl⟩
  go_wp2_with fail
  have hcl := (split1_at b A c l w none HT.out hr (widths_in H.out) hlen hs).mono (R' := fun e w' => e = .panicked short ∧ Upd (fun k => k = ((w.alloc (.cells #[.slice A l.length c] 43 (0, 0))).alloc (.cells #[.slice none 0 0] 54 (0, 0))).heap.size + 1 + 1 ∨ k = w.heap.size + 1) (W3 ((w.alloc (.cells #[.slice A l.length c] 43 (0, 0))).alloc (.cells #[.slice none 0 0] 54 (0, 0))) b) w') (fun e w' ⟨hu, he⟩ => ⟨he, by simpa using hu⟩)
  refine (reading_split_short _ _ b (· = w.heap.size + 1) _ (fun k hk => by simp; omega) (Lib.hid hcl)).mono ?_
  rintro e w2 ⟨rfl, hu⟩
  have hbl : Below w.heap.size w w2 := hu.below (below_alloc (below_alloc (Below.refl _ _) _) _) (by simp; omega) (fun i h => by omega)
  go_wp2_with fail
  go_ret3
  exact ⟨rfl, hbl⟩

/-- What is kept of out when reading has returned. -/
def OutAt (w : World) (xs : List Int) (W : World) : Prop := ∃ v, W.heap[w.heap.size + 1]? = some (.cells #[v] 54 (0, 0)) ∧ (Kd.int .u64).R 53 W w.heap.size (fun k => w.heap.size + 5 ≤ k) v xs
theorem OutAt.keep {w : World} {xs : List Int} {a b : World} (h : Upd (fun k => k = w.heap.size + 2 ∨ k = w.heap.size + 2 + 1) a b) (ha : OutAt w xs a) : OutAt w xs b := by
  obtain ⟨v, h1, h2⟩ := ha
  exact ⟨v, h.heap h1 (by omega), R_upd h2 h (fun k hk => by omega)⟩

set_option maxHeartbeats 400000 in
set_option maxRecDepth 100000 in
theorem Split_ok (b r : ByteArray) (A : Option Addr) (c : Nat) (l xs : List Int) (w : World) (hr : (Kd.int .i64).C w A l.length l) (h : l.all isWidth = true) (hlen : l.length < 17592186044416) (hs : b.size ≤ maxLen) (hT : splitL b l [] = some (xs, r)) :
    Calls Try.prog 30 #[.string b, .slice A l.length c] w fun e w' => ∃ v : Value, e = .returned (.tuple #[v, .string r, .int .i64 0]) ∧ (Kd.int .u64).R 53 w' w.heap.size (fun _ => True) v xs ∧ Below w.heap.size w w' := by
  have hmf : ∀ (fn : Fn) (first cap : Array Value) (w : World), (Instr.makeFunc fn first cap).run Try.prog w = .ok (.func fn first cap) w := fun _ _ _ _ => rfl
  have H := Lib.hid h; clear h
  have HT := Lib.hid hT; clear hT
  go_enter Try.func30, Try.ntmps30
  go_wp2_with fail
  refine (whole_any A c l _ true (Kd.C_alloc hr _) H.out).mono ?_
  rintro e w1 ⟨rfl, rfl⟩
  go_wp2_with fail
  have hcl := (split1_at b A c l w (some (xs, r)) HT.out hr (widths_in H.out) hlen hs).mono (R' := fun e w' => e = .returned (.tuple #[]) ∧ Rd w' (((w.alloc (.cells #[.slice A l.length c] 43 (0, 0))).alloc (.cells #[.slice none 0 0] 54 (0, 0))).heap.size + 1 + 1) r ∧ OutAt w xs w' ∧ Upd (fun k => k = ((w.alloc (.cells #[.slice A l.length c] 43 (0, 0))).alloc (.cells #[.slice none 0 0] 54 (0, 0))).heap.size + 1 + 1 ∨ k = w.heap.size + 1) (W3 ((w.alloc (.cells #[.slice A l.length c] 43 (0, 0))).alloc (.cells #[.slice none 0 0] 54 (0, 0))) b) w') (fun e w' ⟨hu, he, v', hv⟩ =>
      ⟨he, by simpa using hv.rd, ⟨v', hv.out, Kd.R_mono hv.own (fun k hk => by have := hk.2.2; rw [W3_size] at this; simp at this; omega)⟩, by simpa using hu⟩)
  refine (reading_split_ok _ _ b r (· = w.heap.size + 1) (OutAt w xs) _ (fun k hk => by simp; omega) (fun x y hxy hx => OutAt.keep (by simpa using hxy) hx) (Lib.hid hcl)).mono ?_
  rintro e w2 ⟨rfl, ⟨v, hq, hv⟩, hu⟩
  have hbl : Below w.heap.size w w2 := hu.below (below_alloc (below_alloc (Below.refl _ _) _) _) (by simp; omega) (fun i h => by omega)
  have cq : w2.cell? ⟨w.heap.size + 1, 0, none⟩ = some v := blk_cell hq 0
  clear hq
  go_wp2_with fail
  go_ret3
  exact ⟨v, rfl, Kd.R_mono hv (fun _ _ => trivial), hbl⟩

end Go.Proofs.Ytekbecpcbfhdmaa.Oct
namespace Go.Proofs.Ytekbecpcbfhdmaa.Given
open Go.RowKit Go.Proofs.YtekbecpcbfhdmaaW.PrintWords Go.Proofs.Ytekbecpcbfhdmaa.Oct

/-- Split: the numbers and what is left, or the error. -/
def octets_Split.f (a0 : ByteArray) (l1 : List Int) : Option (List Int × ByteArray × Int) :=
  if a0.size ≤ 9223372036854775807 ∧ l1.length < 17592186044416 then
    if l1.all isWidth = true then
      match splitL a0 l1 [] with
      | some (xs, r) => some (xs, r, 0)
      | none => some ([], ⟨#[]⟩, 2)
    else some ([], ⟨#[]⟩, 1)
  else none
theorem octets_Split.calls (a0 : ByteArray) (A1 : Option Addr) (c1 : Nat) (l1 : List Int) (r1 : List Int) (r2 : ByteArray) (r3 : Int) (w : World) (hr1 : Kd.C (Kd.int .i64) w A1 l1.length l1) (_hc1 : l1.length ≤ c1) (h : octets_Split.f a0 l1 = some (r1, r2, r3)) :
    Calls Try.prog 30 #[.string a0, .slice A1 l1.length c1] w fun e w' => ∃ v0_ : Value, e = .returned (.tuple #[v0_, .string r2, .int .i64 r3]) ∧ Kd.R (Kd.int .u64) 53 w' w.heap.size (fun _ => True) v0_ r1 ∧ Below w.heap.size w w' := by
  unfold octets_Split.f at h
  by_cases hs : a0.size ≤ 9223372036854775807 ∧ l1.length < 17592186044416
  · rw [if_pos hs] at h
    by_cases hw : l1.all isWidth = true
    · rw [if_pos hw] at h
      cases hc : splitL a0 l1 [] with
      | none =>
        rw [hc] at h
        simp only [Option.some.injEq, Prod.mk.injEq] at h
        obtain ⟨rfl, rfl, rfl⟩ := h
        exact (Split_short a0 A1 c1 l1 w hr1 hw hs.2 hs.1 hc).mono fun e w' ⟨he, hb⟩ => ⟨_, he, Kd.R_nil _ _ _ _ _, hb⟩
      | some x =>
        obtain ⟨xs, r⟩ := x
        rw [hc] at h
        simp only [Option.some.injEq, Prod.mk.injEq] at h
        obtain ⟨rfl, rfl, rfl⟩ := h
        exact Split_ok a0 r A1 c1 l1 xs w hr1 hw hs.2 hs.1 hc
    · rw [if_neg hw] at h
      simp only [Option.some.injEq, Prod.mk.injEq] at h
      obtain ⟨rfl, rfl, rfl⟩ := h
      exact (Split_arg a0 A1 c1 l1 w hr1 (Bool.eq_false_iff.mpr hw)).mono fun e w' ⟨he, hb⟩ => ⟨_, he, Kd.R_nil _ _ _ _ _, hb⟩
  · rw [if_neg hs] at h; cases h

end Go.Proofs.Ytekbecpcbfhdmaa.Given
/- name.Right and name.Parent, as the printed contracts take them (for a program without name.Labels). -/
namespace Go.Proofs.Ytekbecpcbfhdmaa.Given
open Go.RowKit Go.Proofs.YtekbecpcbfhdmaaW.PrintWords Go.Proofs.Ytekbecpcbfhdmaa.Name
def name_Right.f (a0 : ByteArray) : Option Bool := some (rightB a0)
theorem name_Right.calls (a0 : ByteArray) (r : Bool) (w : World) (h : name_Right.f a0 = some r) :
    Calls Try.prog 19 #[.string a0] w fun e w' => e = .returned (.bool r) ∧ Below w.heap.size w w' := by
  obtain rfl := Option.some.inj h
  exact right_any a0 w
def name_Parent.f (a0 : ByteArray) : Option (ByteArray × Bool) := some (parentR a0)
theorem name_Parent.calls (a0 : ByteArray) (r1 : ByteArray) (r2 : Bool) (w : World) (h : name_Parent.f a0 = some (r1, r2)) :
    Calls Try.prog 21 #[.string a0] w fun e w' => e = .returned (.tuple #[.string r1, .bool r2]) ∧ Below w.heap.size w w' := by
  have e := Option.some.inj h
  have := parent_any a0 w
  rw [e] at this
  exact this
end Go.Proofs.Ytekbecpcbfhdmaa.Given
-- Written by this session's program gprint.py out of the translation; Lean checks it.
namespace Go.Proofs.Ytekbecpcbfhdmaa.PJn
open Go.RowKit Go.Proofs.YtekbecpcbfhdmaaW.PrintWords Go.Proofs.YtekbecpcbfhdmaaW.PrintLast Go.Proofs.YtekbecpcbfhdmaaW.PrintMore Go.Proofs.Ytekbecpcbfhdmaa.Given
attribute [local go_sem] max2_int min2_int max_two min_two max_three min_three max_four min_four   -- for this text's walks alone
set_option linter.unusedVariables false
set_option linter.unusedSimpArgs false



def errW : Option Int → Value
  | none => .nilIface
  | some c => .iface 0 (.int .i64 c)
theorem errW_none : errW none = .nilIface := rfl
theorem errW_some (c : Int) : errW (some c) = .iface 0 (.int .i64 c) := rfl

theorem info5 : (Try.prog.info? 5).map (fun i => (i.zero, i.size, i.bytes)) = some (some (.int .u8 0), 1, 1) := by kernel_rfl
theorem info9 : (Try.prog.info? 9).map (fun i => (i.zero, i.size, i.bytes)) = some (some (.string ⟨#[]⟩), 1, 16) := by kernel_rfl
theorem info62 : (Try.prog.info? 62).map (fun i => (i.zero, i.size, i.bytes)) = some (some (.agg #[(.string ⟨#[]⟩), (.int .i64 0)]), 2, 24) := by kernel_rfl
-- the values' own types
/-! #### struct type 31 -/
structure S31 where
  f0 : Bool
  f1 : ByteArray
  f2 : Bool
def z31 : S31 := ⟨false, (⟨#[]⟩ : ByteArray), false⟩
def k31 : Kd S31 := Kd.iso (Kd.pair Kd.bool (Kd.pair Kd.string Kd.bool)) (fun x : S31 => (x.f0, x.f1, x.f2))
theorem k31_open {w : World} {x : S31} {cs : List Value} (h : k31.K w x cs) : cs = [.bool x.f0, .string x.f1, .bool x.f2] := by
  obtain ⟨_, _, rfl, rfl, ⟨_, _, rfl, rfl, rfl⟩⟩ := h
  exact rfl
theorem k31_openM {w : World} {base : Nat} {ok : Nat → Prop} {x : S31} {cs : List Value} (h : k31.M w base ok x cs) : cs = [.bool x.f0, .string x.f1, .bool x.f2] := by
  obtain ⟨_, _, rfl, rfl, ⟨_, _, rfl, rfl, rfl⟩⟩ := h
  exact rfl
theorem k31_mk (w : World) (x : S31)  : k31.K w x [.bool x.f0, .string x.f1, .bool x.f2] := ⟨[.bool x.f0], [.string x.f1, .bool x.f2], rfl, rfl, ⟨[.string x.f1], [.bool x.f2], rfl, rfl, rfl⟩⟩
theorem k31_mkM (w : World) (base : Nat) (ok : Nat → Prop) (x : S31)  : k31.M w base ok x [.bool x.f0, .string x.f1, .bool x.f2] := ⟨[.bool x.f0], [.string x.f1, .bool x.f2], rfl, rfl, ⟨[.string x.f1], [.bool x.f2], rfl, rfl, rfl⟩⟩
theorem k31_mkF (W : World) (ok : Nat → Prop) (x : S31) : Kd.FK k31 W ok x [.bool x.f0, .string x.f1, .bool x.f2] := fun W2 _ => k31_mk W2 x
def rd_T31 (xs : List S31) (i : Int) : S31 := xs.getD i.toNat z31
theorem at_T31 {w : World} {A : Option Addr} {n : Nat} {xs : List S31} (h : Kd.C k31 w A n xs) (i : Int) (h0 : 0 ≤ i) (h1 : i < n) : ∃ ad , A = some ad ∧ w.cell? (ad.add (i.toNat * 3)) = some (.bool (rd_T31 xs i).f0) ∧ w.cell? ⟨(ad.add (i.toNat * 3)).block, (ad.add (i.toNat * 3)).off + 1, none⟩ = some (.string (rd_T31 xs i).f1) ∧ w.cell? ⟨(ad.add (i.toNat * 3)).block, (ad.add (i.toNat * 3)).off + 2, none⟩ = some (.bool (rd_T31 xs i).f2) := by
  obtain ⟨ad, c, e, _, hK, hc0⟩ := Kd.C_get h z31 i h0 h1
  have hc : ∀ j u, c[j]? = some u → w.cell? (ad.add (i.toNat * 3 + j)) = some u := hc0
  obtain rfl := k31_open hK
  exact ⟨ad, e, hc 0 _ rfl, by rw [← add_field _ _ 1 (by omega)]; exact hc 1 _ rfl, by rw [← add_field _ _ 2 (by omega)]; exact hc 2 _ rfl⟩

/-! #### struct type 62 -/
structure S62 where
  f0 : ByteArray
  f1 : Int
def z62 : S62 := ⟨(⟨#[]⟩ : ByteArray), (0 : Int)⟩
def k62 : Kd S62 := Kd.iso (Kd.pair Kd.string (Kd.int .i64)) (fun x : S62 => (x.f0, x.f1))
theorem k62_open {w : World} {x : S62} {cs : List Value} (h : k62.K w x cs) : cs = [.string x.f0, .int .i64 x.f1] := by
  obtain ⟨_, _, rfl, rfl, rfl⟩ := h
  exact rfl
theorem k62_openM {w : World} {base : Nat} {ok : Nat → Prop} {x : S62} {cs : List Value} (h : k62.M w base ok x cs) : cs = [.string x.f0, .int .i64 x.f1] := by
  obtain ⟨_, _, rfl, rfl, rfl⟩ := h
  exact rfl
theorem k62_mk (w : World) (x : S62)  : k62.K w x [.string x.f0, .int .i64 x.f1] := ⟨[.string x.f0], [.int .i64 x.f1], rfl, rfl, rfl⟩
theorem k62_mkM (w : World) (base : Nat) (ok : Nat → Prop) (x : S62)  : k62.M w base ok x [.string x.f0, .int .i64 x.f1] := ⟨[.string x.f0], [.int .i64 x.f1], rfl, rfl, rfl⟩
theorem k62_mkF (W : World) (ok : Nat → Prop) (x : S62) : Kd.FK k62 W ok x [.string x.f0, .int .i64 x.f1] := fun W2 _ => k62_mk W2 x
def rd_T62 (xs : List S62) (i : Int) : S62 := xs.getD i.toNat z62
theorem at_T62 {w : World} {A : Option Addr} {n : Nat} {xs : List S62} (h : Kd.C k62 w A n xs) (i : Int) (h0 : 0 ≤ i) (h1 : i < n) : ∃ ad , A = some ad ∧ w.cell? (ad.add (i.toNat * 2)) = some (.string (rd_T62 xs i).f0) ∧ w.cell? ⟨(ad.add (i.toNat * 2)).block, (ad.add (i.toNat * 2)).off + 1, none⟩ = some (.int .i64 (rd_T62 xs i).f1) := by
  obtain ⟨ad, c, e, _, hK, hc0⟩ := Kd.C_get h z62 i h0 h1
  have hc : ∀ j u, c[j]? = some u → w.cell? (ad.add (i.toNat * 2 + j)) = some u := hc0
  obtain rfl := k62_open hK
  exact ⟨ad, e, hc 0 _ rfl, by rw [← add_field _ _ 1 (by omega)]; exact hc 1 _ rfl⟩

end Go.Proofs.Ytekbecpcbfhdmaa.PJn
-- Written by this session's program gprint.py out of the translation; Lean checks it.
namespace Go.Proofs.Ytekbecpcbfhdmaa.PJn
open Go.RowKit Go.Proofs.YtekbecpcbfhdmaaW.PrintWords Go.Proofs.YtekbecpcbfhdmaaW.PrintLast Go.Proofs.YtekbecpcbfhdmaaW.PrintMore Go.Proofs.Ytekbecpcbfhdmaa.Given
attribute [local go_sem] max2_int min2_int max_two min_two max_three min_three max_four min_four   -- for this text's walks alone
set_option linter.unusedVariables false
set_option linter.unusedSimpArgs false

-- NOT PRINTED: function 10 (pack_New)

-- NOT PRINTED: function 11 (pack_Packer_Raw)

/-! ### octets_width: function 32 -/
def octets_width.f (a0 : Int) : Option (Bool) := if a0 = 1 then (some true) else (if a0 = 2 then (some true) else (if a0 = 4 then (some true) else (some (a0 == 8))))
set_option maxHeartbeats 8000000 in
set_option maxRecDepth 100000 in
theorem octets_width.calls (a0 : Int) (r : Bool) (w : World) (h : octets_width.f a0 = some r) :
    Calls Try.prog 32 #[.int .i64 a0] w fun e w' => e = .returned (.bool r) ∧ Drawn0 w w' := by
  have H : (if a0 = 1 then (some true) else (if a0 = 2 then (some true) else (if a0 = 4 then (some true) else (some (a0 == 8))))) = some r := h
  clear h
  by_cases c2 : a0 = 1
  · rw [if_pos c2] at H
    have c2b0 : (a0 == 1) = true := beq_iff_eq.mpr c2
    have c2b1 : (a0 != 1) = false := bne_eq_false_iff_eq.mpr c2
    clear c2
    obtain rfl := Option.some.inj H
    go_enter Try.func32, Try.ntmps32
    go_wp2
    go_ret
    exact ⟨by first | rfl | (simp; done) | (simp [*]; done), by repeat (first | exact Drawn0.refl _ | apply Drawn0.step)⟩
  · rw [if_neg c2] at H
    have c2b0 : (a0 == 1) = false := beq_eq_false_iff_ne.mpr c2
    have c2b1 : (a0 != 1) = true := bne_iff_ne.mpr c2
    by_cases c3 : a0 = 2
    · rw [if_pos c3] at H
      have c3b0 : (a0 == 2) = true := beq_iff_eq.mpr c3
      have c3b1 : (a0 != 2) = false := bne_eq_false_iff_eq.mpr c3
      clear c3
      obtain rfl := Option.some.inj H
      go_enter Try.func32, Try.ntmps32
      go_wp2
      go_ret
      exact ⟨by first | rfl | (simp; done) | (simp [*]; done), by repeat (first | exact Drawn0.refl _ | apply Drawn0.step)⟩
    · rw [if_neg c3] at H
      have c3b0 : (a0 == 2) = false := beq_eq_false_iff_ne.mpr c3
      have c3b1 : (a0 != 2) = true := bne_iff_ne.mpr c3
      by_cases c4 : a0 = 4
      · rw [if_pos c4] at H
        have c4b0 : (a0 == 4) = true := beq_iff_eq.mpr c4
        have c4b1 : (a0 != 4) = false := bne_eq_false_iff_eq.mpr c4
        clear c4
        obtain rfl := Option.some.inj H
        go_enter Try.func32, Try.ntmps32
        go_wp2
        go_ret
        exact ⟨by first | rfl | (simp; done) | (simp [*]; done), by repeat (first | exact Drawn0.refl _ | apply Drawn0.step)⟩
      · rw [if_neg c4] at H
        have c4b0 : (a0 == 4) = false := beq_eq_false_iff_ne.mpr c4
        have c4b1 : (a0 != 4) = true := bne_iff_ne.mpr c4
        obtain rfl := Option.some.inj H
        go_enter Try.func32, Try.ntmps32
        go_wp2
        go_ret
        exact ⟨by first | rfl | (simp; done) | (simp [*]; done), by repeat (first | exact Drawn0.refl _ | apply Drawn0.step)⟩

/-! ### octets_whole: function 26 -/
def octets_whole.l0 : Nat → List Int → Int → Int → Option (Bool)
  | 0, _, _, _ => none
  | k + 1, x5, x6, x7 => if x7 < x6 then (if 0 ≤ x7 then (if x7 < (x5.length : Int) then ((octets_width.f (rd x5 x7)).bind fun t102 => (if t102 = true then (octets_whole.l0 k x5 x6 (wrap64 (x7 + 1))) else (some false))) else (none)) else (none)) else (some true)
def octets_whole.f (k : Nat) (l0 : List Int) : Option (Bool) := octets_whole.l0 k l0 (l0.length : Int) 0
theorem octets_whole.mono_l : ∀ k, (∀ y0 y1 y2, LeO (octets_whole.l0 k y0 y1 y2) (octets_whole.l0 (k + 1) y0 y1 y2))
  | 0 => fun _ _ _ r h => by simp [octets_whole.l0] at h
  | k + 1 => by
    have ih0 := octets_whole.mono_l k
    · intro y0 y1 y2
      unfold octets_whole.l0
      repeat' first
      | (with_reducible exact ih0 _ _ _)
      | (with_reducible exact LeO.refl _)
      | (with_reducible exact LeO.none _)
      | (with_reducible refine LeO.ite ?_ ?_)
      | (with_reducible refine LeO.bind ?_ (fun _ => ?_))
      | exact ih0 _ _ _
      | exact LeO.none _
      | refine LeO.ite ?_ ?_
      | refine LeO.bind ?_ (fun _ => ?_)
theorem octets_whole.mono : ∀ a0 k, LeO (octets_whole.f k a0) (octets_whole.f (k + 1) a0) := by
  intro a0 k
  have ih0 := octets_whole.mono_l k
  unfold octets_whole.f
  repeat' first
      | (with_reducible exact ih0 _ _ _)
      | (with_reducible exact LeO.refl _)
      | (with_reducible exact LeO.none _)
      | (with_reducible refine LeO.ite ?_ ?_)
      | (with_reducible refine LeO.bind ?_ (fun _ => ?_))
      | exact ih0 _ _ _
      | exact LeO.none _
      | refine LeO.ite ?_ ?_
      | refine LeO.bind ?_ (fun _ => ?_)
set_option maxHeartbeats 8000000 in
set_option maxRecDepth 100000 in
theorem octets_whole.calls (k : Nat) (A0 : Option Addr) (c0 : Nat) (l0 : List Int) (r : Bool) (w : World) (hr0 : Kd.C (Kd.int .i64) w A0 l0.length l0) (hc0 : l0.length ≤ c0) (h : octets_whole.f k l0 = some r) :
    Calls Try.prog 26 #[.slice A0 l0.length c0] w fun e w' => e = .returned (.bool r) ∧ Drawn0 w w' := by
  have HR0 := Aside0.mk hr0
  have HC0 := Aside0.mk hc0
  clear hr0 hc0
  have H : (octets_whole.l0 k l0 (l0.length : Int) 0) = some r := h
  clear h
  have H' := Aside0.mk H
  clear H
  go_enter Try.func26, Try.ntmps26
  go_wp2
  go_loopg [7] k (fun kq v7 w' => ∃ (x7_1 : Int), v7 = .int .i64 x7_1 ∧ Aside0 (octets_whole.l0 kq l0 (l0.length : Int) x7_1 = some r) ∧ Aside0 (kq ≤ k) ∧ Drawn0 w w')
  case atStart => exact ⟨(0), (by first | rfl | (simp; done) | (simp [*]; done)), H', ⟨Nat.le_refl _⟩, by repeat (first | exact Drawn0.refl _ | apply Drawn0.step)⟩
  case round =>
    clear H'
    obtain ⟨x7_1, rfl, HA, HK1, ⟨m1, rfl⟩⟩ := hrel
    cases gk with
    | zero => exact absurd HA.out (by simp [octets_whole.l0])
    | succ k1 =>
      have H := HA.out
      clear HA
      simp only [octets_whole.l0] at H
      by_cases c2 : x7_1 < (l0.length : Int)
      · rw [if_pos c2] at H
        have c2b0 : decide (x7_1 < (l0.length : Int)) = true := decide_eq_true c2
        clear c2
        by_cases c3 : 0 ≤ x7_1
        · rw [if_pos c3] at H
          have c3b0 : decide (0 ≤ x7_1) = true := decide_eq_true c3
          clear c3
          by_cases c4 : x7_1 < (l0.length : Int)
          · rw [if_pos c4] at H
            have c4b0 : decide (x7_1 < (l0.length : Int)) = true := decide_eq_true c4
            clear c4
            replace H := Option.bind_eq_some_iff.mp H
            obtain ⟨t102, A50, H⟩ := H
            replace H : (if t102 = true then (octets_whole.l0 k1 l0 (l0.length : Int) (wrap64 (x7_1 + 1))) else (some false)) = some r := H
            have A5 := Aside0.mk A50
            clear A50
            by_cases c6 : t102 = true
            · subst c6
              have H1 : (octets_whole.l0 k1 l0 (l0.length : Int) (wrap64 (x7_1 + 1))) = some r := by rw [if_pos rfl] at H; exact H
              clear H
              have H := H1
              clear H1
              have H' := Aside0.mk H
              clear H
              have p101 : 0 ≤ (x7_1 : Int) := of_decide_eq_true (by first | (with_reducible assumption) | assumption)
              have q101 : x7_1 < (l0.length : Int) := of_decide_eq_true (by first | (with_reducible assumption) | assumption)
              obtain ⟨ad101, e101, hx101_0⟩ := Kd.at_int HR0.out x7_1 p101 q101
              cases e101
              replace p101 := eq_true p101
              replace q101 := eq_true q101
              go_wp2_with (first | ((with_reducible refine gate_callee (f := 32) rfl ?_); refine goesL_ (some 12) rfl rfl Try.func32 (by kernel_rfl) rfl #[.int .i64 (rd l0 x7_1)] rfl (by (try simp only [List.map_toArray, List.map_cons, List.map_nil]); first | done | rfl | (simp only [List.length_drop, List.length_take]; rfl)) ?_; (with_reducible refine (octets_width.calls (rd l0 x7_1) true _ A5.out).mono ?_); rintro e w' ⟨rfl, ⟨nd, rfl⟩⟩; refine ⟨_, rfl, ?_⟩))
              go_roundg k1
              case measure => have := HK1.out; omega
              case rel => exact ⟨(wrap64 (x7_1 + 1)), (by first | rfl | (simp; done) | (simp [*]; done)), H', ⟨by have := HK1.out; omega⟩, by repeat (first | exact Drawn0.refl _ | apply Drawn0.step)⟩
            · replace c6 := Bool.eq_false_iff.mpr c6
              subst c6
              have H1 : (some false) = some r := by rw [if_neg (show ¬ (false = true) by decide)] at H; exact H
              clear H
              have H := H1
              clear H1
              obtain rfl := Option.some.inj H
              have p101 : 0 ≤ (x7_1 : Int) := of_decide_eq_true (by first | (with_reducible assumption) | assumption)
              have q101 : x7_1 < (l0.length : Int) := of_decide_eq_true (by first | (with_reducible assumption) | assumption)
              obtain ⟨ad101, e101, hx101_0⟩ := Kd.at_int HR0.out x7_1 p101 q101
              cases e101
              replace p101 := eq_true p101
              replace q101 := eq_true q101
              go_wp2_with (first | ((with_reducible refine gate_callee (f := 32) rfl ?_); refine goesL_ (some 12) rfl rfl Try.func32 (by kernel_rfl) rfl #[.int .i64 (rd l0 x7_1)] rfl (by (try simp only [List.map_toArray, List.map_cons, List.map_nil]); first | done | rfl | (simp only [List.length_drop, List.length_take]; rfl)) ?_; (with_reducible refine (octets_width.calls (rd l0 x7_1) false _ A5.out).mono ?_); rintro e w' ⟨rfl, ⟨nd, rfl⟩⟩; refine ⟨_, rfl, ?_⟩))
              go_ret
              exact ⟨by first | rfl | (simp; done) | (simp [*]; done), by repeat (first | exact Drawn0.refl _ | apply Drawn0.step)⟩
          · rw [if_neg c4] at H
            exact absurd H (by simp)
        · rw [if_neg c3] at H
          exact absurd H (by simp)
      · rw [if_neg c2] at H
        have c2b0 : decide (x7_1 < (l0.length : Int)) = false := decide_eq_false c2
        clear c2
        obtain rfl := Option.some.inj H
        go_wp2
        go_ret
        exact ⟨by first | rfl | (simp; done) | (simp [*]; done), by repeat (first | exact Drawn0.refl _ | apply Drawn0.step)⟩

/-! ### octets_most: function 27 -/
def octets_most.f (a0 : Int) : Option (Int) := if 0 ≤ (wrap64 (64 - (wrap64 (8 * a0)))) then (some (shr .u64 18446744073709551615 (wrap64 (64 - (wrap64 (8 * a0)))))) else (none)
set_option maxHeartbeats 8000000 in
set_option maxRecDepth 100000 in
theorem octets_most.calls (a0 : Int) (r : Int) (w : World) (h : octets_most.f a0 = some r) :
    Calls Try.prog 27 #[.int .i64 a0] w fun e w' => e = .returned (.int .u64 r) ∧ Drawn0 w w' := by
  have H : (if 0 ≤ (wrap64 (64 - (wrap64 (8 * a0)))) then (some (shr .u64 18446744073709551615 (wrap64 (64 - (wrap64 (8 * a0)))))) else (none)) = some r := h
  clear h
  obtain ⟨ji2, hji2⟩ : ∃ j_ : Int, (wrap64 (64 - (wrap64 (8 * a0)))) = j_ := ⟨_, rfl⟩
  replace H : (if 0 ≤ (ji2) then (some (shr .u64 18446744073709551615 (ji2))) else (none)) = some r := by first | (rw [hji2] at H; exact H) | (simp only [hji2] at H ⊢; exact H)
  have hji2w : (IntKind.i64.wrap (64 - (wrap64 (8 * a0)))) = ji2 := (i64_w _).trans hji2
  by_cases c3 : 0 ≤ (ji2)
  · rw [if_pos c3] at H
    have c3b0 := eq_true c3
    have c3b1 : decide (0 ≤ (ji2)) = true := decide_eq_true c3
    clear c3
    obtain ⟨ji4, hji4⟩ : ∃ j_ : Int, (shr .u64 18446744073709551615 (ji2)) = j_ := ⟨_, rfl⟩
    replace H : (some ji4) = some r := by first | (rw [hji4] at H; exact H) | (simp only [hji4] at H ⊢; exact H)
    have hji4_ : (18446744073709551615 / 2 ^ min (ji2).toNat 64) = ji4 := hji4
    have hji4z : (ji2) ≤ 64 → (18446744073709551615 / 2 ^ (ji2).toNat) = ji4 := shr_small hji4
    (try (have hji4n : 0 ≤ ji4 := by rw [← hji4]; unfold shr; exact Int.ediv_nonneg (by omega) (Int.le_of_lt (Int.pow_pos (by omega)))))
    obtain rfl := Option.some.inj H
    go_enter Try.func27, Try.ntmps27
    go_wp2
    go_ret
    exact ⟨by first | rfl | (simp; done) | (simp only [← hji2, ← hji4] <;> (first | rfl | simp)) | (simp [*]; done), by repeat (first | exact Drawn0.refl _ | apply Drawn0.step)⟩
  · rw [if_neg c3] at H
    exact absurd H (by simp)

/-! ### octets_bytes: function 28 -/
def octets_bytes.l0 : Nat → Int → List Int → Int → Option (List Int)
  | 0, _, _, _ => none
  | k + 1, x0, x5, x6 => if x6 ≥ 0 then (if 0 ≤ (wrap64 (8 * x6)) then (if x5.length < 140737488355328 then (octets_bytes.l0 k x0 (x5 ++ [(shr .u64 x0 (wrap64 (8 * x6))) % 256]) (wrap64 (x6 - 1))) else (none)) else (none)) else (some x5)
def octets_bytes.f (k : Nat) (a0 : Int) (a1 : Int) : Option (List Int) := octets_bytes.l0 k a0 ([] : List Int) (wrap64 (a1 - 1))
theorem octets_bytes.mono_l : ∀ k, (∀ y0 y1 y2, LeO (octets_bytes.l0 k y0 y1 y2) (octets_bytes.l0 (k + 1) y0 y1 y2))
  | 0 => fun _ _ _ r h => by simp [octets_bytes.l0] at h
  | k + 1 => by
    have ih0 := octets_bytes.mono_l k
    · intro y0 y1 y2
      unfold octets_bytes.l0
      repeat' first
      | (with_reducible exact ih0 _ _ _)
      | (with_reducible exact LeO.refl _)
      | (with_reducible exact LeO.none _)
      | (with_reducible refine LeO.ite ?_ ?_)
      | (with_reducible refine LeO.bind ?_ (fun _ => ?_))
      | exact ih0 _ _ _
      | exact LeO.none _
      | refine LeO.ite ?_ ?_
      | refine LeO.bind ?_ (fun _ => ?_)
theorem octets_bytes.mono : ∀ a0 a1 k, LeO (octets_bytes.f k a0 a1) (octets_bytes.f (k + 1) a0 a1) := by
  intro a0 a1 k
  have ih0 := octets_bytes.mono_l k
  unfold octets_bytes.f
  repeat' first
      | (with_reducible exact ih0 _ _ _)
      | (with_reducible exact LeO.refl _)
      | (with_reducible exact LeO.none _)
      | (with_reducible refine LeO.ite ?_ ?_)
      | (with_reducible refine LeO.bind ?_ (fun _ => ?_))
      | exact ih0 _ _ _
      | exact LeO.none _
      | refine LeO.ite ?_ ?_
      | refine LeO.bind ?_ (fun _ => ?_)
set_option maxHeartbeats 8000000 in
set_option maxRecDepth 100000 in
theorem octets_bytes.calls (k : Nat) (a0 : Int) (a1 : Int) (r : List Int) (w : World) (h : octets_bytes.f k a0 a1 = some r) :
    Calls Try.prog 28 #[.int .u64 a0, .int .i64 a1] w fun e w' => ∃ v0_ : Value, e = .returned (v0_) ∧ Kd.R (Kd.int .u8) 5 w' w.heap.size (fun _ => True) v0_ r ∧ Below w.heap.size w w' := by
  have HB := Aside0.mk (Below.refl w.heap.size w)
  have H : (octets_bytes.l0 k a0 ([] : List Int) (wrap64 (a1 - 1))) = some r := h
  clear h
  have H' := Aside0.mk H
  clear H
  go_enter Try.func28, Try.ntmps28
  go_wp2
  go_loopg [5, 6] k (fun kq v5 v6 w' => ∃ (x5_1 : List Int) (x6_1 : Int), v6 = .int .i64 x6_1 ∧ Aside0 (octets_bytes.l0 kq a0 x5_1 x6_1 = some r) ∧ Aside0 (kq ≤ k) ∧ Aside0 (Kd.R (Kd.int .u8) 5 w' w.heap.size (fun _ => True) v5 x5_1) ∧ Aside0 (Below w.heap.size w w'))
  case atStart => exact ⟨(([] : List Int)), (wrap64 (a1 - 1)), (by first | rfl | (simp; done) | (simp [*]; done)), H', ⟨Nat.le_refl _⟩, ⟨by first | exact Kd.R_nil _ _ _ _ _ | exact Kd.N_nil _ _ _ _ _ | exact Kd.V_nil _ _ _ _ _ | exact Kd.Q_nil _ _ _ _ _ | exact Kd.S_nil _ _ _ _ _⟩, ⟨by repeat (first | (with_reducible first | exact HB.out | apply below_alloc | apply pw_below_drewN | apply below_drew1) | exact HB.out)⟩⟩
  case round =>
    clear H'
    try clear c2
    try clear p2
    obtain ⟨x5_1, x6_1, rfl, HA, HK1, HO_5, HB⟩ := hrel
    cases gk with
    | zero => exact absurd HA.out (by simp [octets_bytes.l0])
    | succ k1 =>
      have H := HA.out
      clear HA
      simp only [octets_bytes.l0] at H
      by_cases c3 : x6_1 ≥ 0
      · rw [if_pos c3] at H
        have c3b0 : decide (0 ≤ x6_1) = true := decide_eq_true c3
        clear c3
        obtain ⟨ji4, hji4⟩ : ∃ j_ : Int, (wrap64 (8 * x6_1)) = j_ := ⟨_, rfl⟩
        replace H : (if 0 ≤ (ji4) then (if x5_1.length < 140737488355328 then (octets_bytes.l0 k1 a0 (x5_1 ++ [(shr .u64 a0 (ji4)) % 256]) (wrap64 (x6_1 - 1))) else (none)) else (none)) = some r := by first | (rw [hji4] at H; exact H) | (simp only [hji4] at H ⊢; exact H)
        have hji4w : (IntKind.i64.wrap (8 * x6_1)) = ji4 := (i64_w _).trans hji4
        by_cases c5 : 0 ≤ (ji4)
        · rw [if_pos c5] at H
          have c5b0 := eq_true c5
          have c5b1 : decide (0 ≤ (ji4)) = true := decide_eq_true c5
          clear c5
          obtain ⟨ji6, hji6⟩ : ∃ j_ : Int, (shr .u64 a0 (ji4)) = j_ := ⟨_, rfl⟩
          replace H : (if x5_1.length < 140737488355328 then (octets_bytes.l0 k1 a0 (x5_1 ++ [(ji6) % 256]) (wrap64 (x6_1 - 1))) else (none)) = some r := by first | (rw [hji6] at H; exact H) | (simp only [hji6] at H ⊢; exact H)
          have hji6_ : (a0 / 2 ^ min (ji4).toNat 64) = ji6 := hji6
          have hji6z : (ji4) ≤ 64 → (a0 / 2 ^ (ji4).toNat) = ji6 := shr_small hji6
          (try (have hji6n : 0 ≤ ji6 := by rw [← hji6]; unfold shr; exact Int.ediv_nonneg (by omega) (Int.le_of_lt (Int.pow_pos (by omega)))))
          by_cases c7 : x5_1.length < 140737488355328
          · rw [if_pos c7] at H
            have LMc7 := Aside0.mk c7
            clear c7
            obtain ⟨y103, hy103⟩ : ∃ y_ : List Int, y_ = (x5_1 ++ [(ji6) % 256]) := ⟨_, rfl⟩
            replace H : (octets_bytes.l0 k1 a0 y103 (wrap64 (x6_1 - 1))) = some r := by first | (rw [hy103]; with_reducible exact H) | (have H2_ := (Option.bind_some _ _).symm.trans H; rw [hy103]; with_reducible exact H2_) | (have H2_ := (Option.bind_some _ _).symm.trans H; with_reducible exact H2_) | with_reducible exact H | (rw [hy103]; exact H) | exact H
            have Ny103 := Aside0.mk hy103
            clear hy103
            have H' := Aside0.mk H
            clear H
            go_wp2_with (first | ((with_reducible refine gate_builtin (b := .append) (xs := #[.tmp 13, .tmp 19]) rfl ?_); at_builtin; refine Kd.R_append (Kd.int .u8) (w0 := w) w.heap.size rfl (.tmp 13) (.tmp 19) 44 5 (.int .u8 0) 1 rfl Try.underlying44 info5 rfl (by decide) (by omega) u5 x5_1 ((ji6) % 256) [.int .u8 ((ji6) % 256)] (fun _ => True) (fun _ => False) rfl rfl ?aP (fun _ hk => hk.elim) ?aF ?aO ?aB ?aS ?aL ?_; (case aP => exact rfl); (case aB => exact (by repeat (first | (with_reducible first | exact HB.out | apply below_alloc | apply pw_below_drewN | apply below_drew1) | exact HB.out))); (case aF => exact (fun _ _ => trivial)); (case aO => exact (by (with_reducible repeat (first | apply Kd.R_alloc | apply Kd.R_drewN | apply Kd.R_drew)); exact HO_5.out)); (case aS => exact (below_size (by repeat (first | (with_reducible first | exact HB.out | apply below_alloc | apply pw_below_drewN | apply below_drew1) | exact HB.out)))); (case aL => have := LMc7.out; omega); intro v104 w8 ho hb hg hat; rw [← Ny103.out] at ho; have n0_ := Aside0.mk (hb); have n1_ := Aside0.mk (ho); clear HB; clear HO_5; have HB := n0_; have HO105 := n1_; clear n0_ n1_; clear ho hb hg hat))
            go_roundg k1
            case measure => have := HK1.out; omega
            case rel => exact ⟨(y103), (wrap64 (x6_1 - 1)), (by first | rfl | (simp; done) | (simp [*]; done)), H', ⟨by have := HK1.out; omega⟩, ⟨by (with_reducible repeat (first | apply Kd.R_alloc | apply Kd.R_drewN | apply Kd.R_drew)); exact HO105.out⟩, ⟨by repeat (first | (with_reducible first | exact HB.out | apply below_alloc | apply pw_below_drewN | apply below_drew1) | exact HB.out)⟩⟩
          · rw [if_neg c7] at H
            exact absurd H (by simp)
        · rw [if_neg c5] at H
          exact absurd H (by simp)
      · rw [if_neg c3] at H
        have c3b0 : decide (0 ≤ x6_1) = false := decide_eq_false c3
        clear c3
        obtain rfl := Option.some.inj H
        go_wp2
        go_ret
        exact ⟨_, by first | rfl | (simp [errW_none, errW_some] <;> rfl) | (simp [*, errW_none, errW_some] <;> rfl), by (with_reducible repeat (first | apply Kd.R_alloc | apply Kd.R_drewN | apply Kd.R_drew)); exact HO_5.out, by repeat (first | (with_reducible first | exact HB.out | apply below_alloc | apply pw_below_drewN | apply below_drew1) | exact HB.out)⟩

/-! ### octets_Join: function 20 -/
mutual
def octets_Join.j0 : Nat → List Int → List Int → Bool → Option (ByteArray × Int)
  | 0, _, _, _ => none
  | k + 1, x0, x1, x18 => if x18 = true then (some ((⟨#[]⟩ : ByteArray), 1)) else (octets_Join.l0 k x0 ([] : List Int) x1 (x1.length : Int) 0)
def octets_Join.l0 : Nat → List Int → List Int → List Int → Int → Int → Option (ByteArray × Int)
  | 0, _, _, _, _, _ => none
  | k + 1, x0, x6, x19, x20, x21 => if x21 < x20 then (if 0 ≤ x21 then (if x21 < (x19.length : Int) then (if x21 < (x0.length : Int) then ((octets_most.f (rd x19 x21)).bind fun t109 => (if (rd x0 x21) > t109 then (some ((⟨#[]⟩ : ByteArray), 1)) else ((octets_bytes.f k (rd x0 x21) (rd x19 x21)).bind fun t111 => (if x6.length + t111.length < 140737488355328 then (octets_Join.l0 k x0 (x6 ++ t111) x19 x20 (wrap64 (x21 + 1))) else (none))))) else (none)) else (none)) else (none)) else (some (strOfNums x6, 0))
end
def octets_Join.f (k : Nat) (l0 : List Int) (l1 : List Int) : Option (ByteArray × Int) := (octets_whole.f k l1).bind fun t106 => (if t106 = true then (octets_Join.j0 k l0 l1 ((l0.length : Int) != (l1.length : Int))) else (octets_Join.j0 k l0 l1 true))
theorem octets_Join.mono_l : ∀ k, (∀ y0 y1 y2, LeO (octets_Join.j0 k y0 y1 y2) (octets_Join.j0 (k + 1) y0 y1 y2)) ∧ (∀ y0 y1 y2 y3 y4, LeO (octets_Join.l0 k y0 y1 y2 y3 y4) (octets_Join.l0 (k + 1) y0 y1 y2 y3 y4))
  | 0 => ⟨fun _ _ _ r h => by simp [octets_Join.j0] at h, fun _ _ _ _ _ r h => by simp [octets_Join.l0] at h⟩
  | k + 1 => by
    obtain ⟨ih0, ih1⟩ := octets_Join.mono_l k
    refine ⟨?_, ?_⟩
    · intro y0 y1 y2
      unfold octets_Join.j0
      repeat' first
      | (with_reducible exact ih0 _ _ _)
      | (with_reducible exact ih1 _ _ _ _ _)
      | (with_reducible exact octets_bytes.mono _ _ _)
      | (with_reducible exact octets_whole.mono _ _)
      | (with_reducible exact LeO.refl _)
      | (with_reducible exact LeO.none _)
      | (with_reducible refine LeO.ite ?_ ?_)
      | (with_reducible refine LeO.bind ?_ (fun _ => ?_))
      | exact ih0 _ _ _
      | exact ih1 _ _ _ _ _
      | exact octets_bytes.mono _ _ _
      | exact octets_whole.mono _ _
      | exact LeO.none _
      | refine LeO.ite ?_ ?_
      | refine LeO.bind ?_ (fun _ => ?_)
    · intro y0 y1 y2 y3 y4
      unfold octets_Join.l0
      repeat' first
      | (with_reducible exact ih0 _ _ _)
      | (with_reducible exact ih1 _ _ _ _ _)
      | (with_reducible exact octets_bytes.mono _ _ _)
      | (with_reducible exact octets_whole.mono _ _)
      | (with_reducible exact LeO.refl _)
      | (with_reducible exact LeO.none _)
      | (with_reducible refine LeO.ite ?_ ?_)
      | (with_reducible refine LeO.bind ?_ (fun _ => ?_))
      | exact ih0 _ _ _
      | exact ih1 _ _ _ _ _
      | exact octets_bytes.mono _ _ _
      | exact octets_whole.mono _ _
      | exact LeO.none _
      | refine LeO.ite ?_ ?_
      | refine LeO.bind ?_ (fun _ => ?_)
theorem octets_Join.mono : ∀ a0 a1 k, LeO (octets_Join.f k a0 a1) (octets_Join.f (k + 1) a0 a1) := by
  intro a0 a1 k
  obtain ⟨ih0, ih1⟩ := octets_Join.mono_l k
  unfold octets_Join.f
  repeat' first
      | (with_reducible exact ih0 _ _ _)
      | (with_reducible exact ih1 _ _ _ _ _)
      | (with_reducible exact octets_bytes.mono _ _ _)
      | (with_reducible exact octets_whole.mono _ _)
      | (with_reducible exact LeO.refl _)
      | (with_reducible exact LeO.none _)
      | (with_reducible refine LeO.ite ?_ ?_)
      | (with_reducible refine LeO.bind ?_ (fun _ => ?_))
      | exact ih0 _ _ _
      | exact ih1 _ _ _ _ _
      | exact octets_bytes.mono _ _ _
      | exact octets_whole.mono _ _
      | exact LeO.none _
      | refine LeO.ite ?_ ?_
      | refine LeO.bind ?_ (fun _ => ?_)
set_option maxHeartbeats 8000000 in
set_option maxRecDepth 100000 in
theorem octets_Join.calls (k : Nat) (A0 : Option Addr) (c0 : Nat) (l0 : List Int) (A1 : Option Addr) (c1 : Nat) (l1 : List Int) (r1 : ByteArray) (r2 : Int) (w : World) (hr0 : Kd.C (Kd.int .u64) w A0 l0.length l0) (hc0 : l0.length ≤ c0) (hr1 : Kd.C (Kd.int .i64) w A1 l1.length l1) (hc1 : l1.length ≤ c1) (h : octets_Join.f k l0 l1 = some (r1, r2)) :
    Calls Try.prog 20 #[.slice A0 l0.length c0, .slice A1 l1.length c1] w fun e w' => e = .returned (.tuple #[.string r1, .int .i64 r2]) ∧ Below w.heap.size w w' := by
  have HR0 := Aside0.mk hr0
  have HC0 := Aside0.mk hc0
  clear hr0 hc0
  have HR1 := Aside0.mk hr1
  have HC1 := Aside0.mk hc1
  clear hr1 hc1
  have HB := Aside0.mk (Below.refl w.heap.size w)
  have H : ((octets_whole.f k l1).bind fun t106 => (if t106 = true then (octets_Join.j0 k l0 l1 ((l0.length : Int) != (l1.length : Int))) else (octets_Join.j0 k l0 l1 true))) = some (r1, r2) := h
  clear h
  have HC3 := Aside0.mk H
  clear H
  go_enter Try.func20, Try.ntmps20
  go_upto_region 1 with (fail)
  repeat (go_quiet (fail); go_upto_region 1 with (fail))
  go_cut [18] (fun v18 wc => ∃ (kq : Nat) (x18_2 : Bool), v18 = .bool x18_2 ∧ Aside0 (octets_Join.j0 kq l0 l1 x18_2 = some (r1, r2)) ∧ Aside0 (kq ≤ k) ∧ Aside0 (Below w.heap.size w wc))
  case first =>
    have H := HC3.out
    clear HC3
    replace H := Option.bind_eq_some_iff.mp H
    obtain ⟨t106, A40, H⟩ := H
    replace H : (if t106 = true then (octets_Join.j0 k l0 l1 ((l0.length : Int) != (l1.length : Int))) else (octets_Join.j0 k l0 l1 true)) = some (r1, r2) := H
    have A4 := Aside0.mk A40
    clear A40
    by_cases c5 : t106 = true
    · subst c5
      have H1 : (octets_Join.j0 k l0 l1 ((l0.length : Int) != (l1.length : Int))) = some (r1, r2) := by rw [if_pos rfl] at H; exact H
      clear H
      have H := H1
      clear H1
      have H' := Aside0.mk H
      clear H
      go_wp2_with (first | (go_at_call 26; (with_reducible refine (octets_whole.calls k _ _ l1 true _ ?side1 ?side2 A4.out).mono ?_); (case side1 => repeat (first | exact (Kd.C_below HR1.out HB.out) | (with_reducible refine Kd.C_alloc ?_ _) | (with_reducible refine Kd.C_drewN ?_ _) | (with_reducible refine Kd.C_drew ?_))); (case side2 => exact HC1.out); rintro e w' ⟨rfl, ⟨nd, rfl⟩⟩; (try first | exact ⟨rfl, _, World.drewN_drewN _ _ _⟩ | exact ⟨rfl, _, Eq.trans (World.drewN_drewN _ _ _) (congrArg (World.drewN _) (Nat.add_assoc _ _ _))⟩)))
      repeat (go_quiet (first | (go_at_call 26; (with_reducible refine (octets_whole.calls k _ _ l1 true _ ?side1 ?side2 A4.out).mono ?_); (case side1 => repeat (first | exact (Kd.C_below HR1.out HB.out) | (with_reducible refine Kd.C_alloc ?_ _) | (with_reducible refine Kd.C_drewN ?_ _) | (with_reducible refine Kd.C_drew ?_))); (case side2 => exact HC1.out); rintro e w' ⟨rfl, ⟨nd, rfl⟩⟩; (try first | exact ⟨rfl, _, World.drewN_drewN _ _ _⟩ | exact ⟨rfl, _, Eq.trans (World.drewN_drewN _ _ _) (congrArg (World.drewN _) (Nat.add_assoc _ _ _))⟩))); try go_wp2_with (first | (go_at_call 26; (with_reducible refine (octets_whole.calls k _ _ l1 true _ ?side1 ?side2 A4.out).mono ?_); (case side1 => repeat (first | exact (Kd.C_below HR1.out HB.out) | (with_reducible refine Kd.C_alloc ?_ _) | (with_reducible refine Kd.C_drewN ?_ _) | (with_reducible refine Kd.C_drew ?_))); (case side2 => exact HC1.out); rintro e w' ⟨rfl, ⟨nd, rfl⟩⟩; (try first | exact ⟨rfl, _, World.drewN_drewN _ _ _⟩ | exact ⟨rfl, _, Eq.trans (World.drewN_drewN _ _ _) (congrArg (World.drewN _) (Nat.add_assoc _ _ _))⟩))))
      go_meet
      case rel => exact ⟨_, (((l0.length : Int) != (l1.length : Int))), (by first | rfl | (simp; done) | (simp [*]; done)), H', ⟨by first | omega | exact Nat.le_refl _⟩, ⟨by repeat (first | (with_reducible first | exact HB.out | apply below_alloc | apply pw_below_drewN | apply below_drew1) | exact HB.out)⟩⟩
    · replace c5 := Bool.eq_false_iff.mpr c5
      subst c5
      have H1 : (octets_Join.j0 k l0 l1 true) = some (r1, r2) := by rw [if_neg (show ¬ (false = true) by decide)] at H; exact H
      clear H
      have H := H1
      clear H1
      have H' := Aside0.mk H
      clear H
      go_wp2_with (first | (go_at_call 26; (with_reducible refine (octets_whole.calls k _ _ l1 false _ ?side1 ?side2 A4.out).mono ?_); (case side1 => repeat (first | exact (Kd.C_below HR1.out HB.out) | (with_reducible refine Kd.C_alloc ?_ _) | (with_reducible refine Kd.C_drewN ?_ _) | (with_reducible refine Kd.C_drew ?_))); (case side2 => exact HC1.out); rintro e w' ⟨rfl, ⟨nd, rfl⟩⟩; (try first | exact ⟨rfl, _, World.drewN_drewN _ _ _⟩ | exact ⟨rfl, _, Eq.trans (World.drewN_drewN _ _ _) (congrArg (World.drewN _) (Nat.add_assoc _ _ _))⟩)))
      repeat (go_quiet (first | (go_at_call 26; (with_reducible refine (octets_whole.calls k _ _ l1 false _ ?side1 ?side2 A4.out).mono ?_); (case side1 => repeat (first | exact (Kd.C_below HR1.out HB.out) | (with_reducible refine Kd.C_alloc ?_ _) | (with_reducible refine Kd.C_drewN ?_ _) | (with_reducible refine Kd.C_drew ?_))); (case side2 => exact HC1.out); rintro e w' ⟨rfl, ⟨nd, rfl⟩⟩; (try first | exact ⟨rfl, _, World.drewN_drewN _ _ _⟩ | exact ⟨rfl, _, Eq.trans (World.drewN_drewN _ _ _) (congrArg (World.drewN _) (Nat.add_assoc _ _ _))⟩))); try go_wp2_with (first | (go_at_call 26; (with_reducible refine (octets_whole.calls k _ _ l1 false _ ?side1 ?side2 A4.out).mono ?_); (case side1 => repeat (first | exact (Kd.C_below HR1.out HB.out) | (with_reducible refine Kd.C_alloc ?_ _) | (with_reducible refine Kd.C_drewN ?_ _) | (with_reducible refine Kd.C_drew ?_))); (case side2 => exact HC1.out); rintro e w' ⟨rfl, ⟨nd, rfl⟩⟩; (try first | exact ⟨rfl, _, World.drewN_drewN _ _ _⟩ | exact ⟨rfl, _, Eq.trans (World.drewN_drewN _ _ _) (congrArg (World.drewN _) (Nat.add_assoc _ _ _))⟩))))
      go_meet
      case rel => exact ⟨_, (true), (by first | rfl | (simp; done) | (simp [*]; done)), H', ⟨by first | omega | exact Nat.le_refl _⟩, ⟨by repeat (first | (with_reducible first | exact HB.out | apply below_alloc | apply pw_below_drewN | apply below_drew1) | exact HB.out)⟩⟩
  case rest =>
    clear HC3
    try clear c1
    try clear c2
    try clear p2
    try clear c5
    obtain ⟨kq, x18_2, rfl, HA, HJ2, HB⟩ := hcut
    cases kq with
    | zero => exact absurd HA.out (by simp [octets_Join.j0])
    | succ kj2 =>
      have H := HA.out
      clear HA
      simp only [octets_Join.j0] at H
      by_cases c6 : x18_2 = true
      · subst c6
        have H1 : (some ((⟨#[]⟩ : ByteArray), 1)) = some (r1, r2) := by rw [if_pos rfl] at H; exact H
        clear H
        have H := H1
        clear H1
        simp only [Option.some.injEq, Prod.mk.injEq] at H
        obtain ⟨rfl, rfl⟩ := H
        go_wp2
        repeat (go_quiet (fail); try go_wp2)
        go_ret2
        exact ⟨by first | rfl | (simp [errW_none, errW_some] <;> rfl) | (simp [*, errW_none, errW_some] <;> rfl), by repeat (first | (with_reducible first | exact HB.out | apply below_alloc | apply pw_below_drewN | apply below_drew1) | exact HB.out)⟩
      · replace c6 := Bool.eq_false_iff.mpr c6
        subst c6
        have H1 : (octets_Join.l0 kj2 l0 ([] : List Int) l1 (l1.length : Int) 0) = some (r1, r2) := by rw [if_neg (show ¬ (false = true) by decide)] at H; exact H
        clear H
        have H := H1
        clear H1
        have H' := Aside0.mk H
        clear H
        go_wp2
        repeat (go_quiet (fail); try go_wp2)
        go_loopg [6, 21] kj2 (fun kq v6 v21 w' => ∃ (x6_2 : List Int) (x21_2 : Int), v21 = .int .i64 x21_2 ∧ Aside0 (octets_Join.l0 kq l0 x6_2 l1 (l1.length : Int) x21_2 = some (r1, r2)) ∧ Aside0 (kq ≤ kj2) ∧ Aside0 (Kd.R (Kd.int .u8) 5 w' w.heap.size (fun _ => True) v6 x6_2) ∧ Aside0 (Below w.heap.size w w'))
        case atStart => exact ⟨(([] : List Int)), (0), (by first | rfl | (simp; done) | (simp [*]; done)), H', ⟨Nat.le_refl _⟩, ⟨by first | exact Kd.R_nil _ _ _ _ _ | exact Kd.N_nil _ _ _ _ _ | exact Kd.V_nil _ _ _ _ _ | exact Kd.Q_nil _ _ _ _ _ | exact Kd.S_nil _ _ _ _ _⟩, ⟨by repeat (first | (with_reducible first | exact HB.out | apply below_alloc | apply pw_below_drewN | apply below_drew1) | exact HB.out)⟩⟩
        case round =>
          clear H'
          try clear c1
          try clear c2
          try clear p2
          try clear c5
          try clear c6
          try clear p2
          obtain ⟨x6_2, x21_2, rfl, HA, HK2, HO_6, HB⟩ := hrel
          cases gk with
          | zero => exact absurd HA.out (by simp [octets_Join.l0])
          | succ k2 =>
            have H := HA.out
            clear HA
            simp only [octets_Join.l0] at H
            by_cases c7 : x21_2 < (l1.length : Int)
            · rw [if_pos c7] at H
              have c7b0 : decide (x21_2 < (l1.length : Int)) = true := decide_eq_true c7
              clear c7
              by_cases c8 : 0 ≤ x21_2
              · rw [if_pos c8] at H
                have c8b0 : decide (0 ≤ x21_2) = true := decide_eq_true c8
                clear c8
                by_cases c9 : x21_2 < (l1.length : Int)
                · rw [if_pos c9] at H
                  have c9b0 : decide (x21_2 < (l1.length : Int)) = true := decide_eq_true c9
                  clear c9
                  by_cases c10 : x21_2 < (l0.length : Int)
                  · rw [if_pos c10] at H
                    have c10b0 : decide (x21_2 < (l0.length : Int)) = true := decide_eq_true c10
                    clear c10
                    replace H := Option.bind_eq_some_iff.mp H
                    obtain ⟨t109, A110, H⟩ := H
                    replace H : (if (rd l0 x21_2) > t109 then (some ((⟨#[]⟩ : ByteArray), 1)) else ((octets_bytes.f k2 (rd l0 x21_2) (rd l1 x21_2)).bind fun t111 => (if x6_2.length + t111.length < 140737488355328 then (octets_Join.l0 k2 l0 (x6_2 ++ t111) l1 (l1.length : Int) (wrap64 (x21_2 + 1))) else (none)))) = some (r1, r2) := H
                    have A11 := Aside0.mk A110
                    clear A110
                    by_cases c12 : (rd l0 x21_2) > t109
                    · rw [if_pos c12] at H
                      have c12b0 : decide (t109 < (rd l0 x21_2)) = true := decide_eq_true c12
                      clear c12
                      simp only [Option.some.injEq, Prod.mk.injEq] at H
                      obtain ⟨rfl, rfl⟩ := H
                      have p107 : 0 ≤ (x21_2 : Int) := of_decide_eq_true (by first | (with_reducible assumption) | assumption)
                      have q107 : x21_2 < (l1.length : Int) := of_decide_eq_true (by first | (with_reducible assumption) | assumption)
                      obtain ⟨ad107, e107, hx107_0⟩ := Kd.at_int HR1.out x21_2 p107 q107
                      cases e107
                      replace hx107_0 := (HB.out.cell (World.block_lt_of_cell? w _ hx107_0)).trans hx107_0
                      replace p107 := eq_true p107
                      replace q107 := eq_true q107
                      have p108 : 0 ≤ (x21_2 : Int) := of_decide_eq_true (by first | (with_reducible assumption) | assumption)
                      have q108 : x21_2 < (l0.length : Int) := of_decide_eq_true (by first | (with_reducible assumption) | assumption)
                      obtain ⟨ad108, e108, hx108_0⟩ := Kd.at_int HR0.out x21_2 p108 q108
                      cases e108
                      replace hx108_0 := (HB.out.cell (World.block_lt_of_cell? w _ hx108_0)).trans hx108_0
                      replace p108 := eq_true p108
                      replace q108 := eq_true q108
                      go_wp2_with (first | (go_at_call 27; (with_reducible refine (octets_most.calls (rd l1 x21_2) t109 _ A11.out).mono ?_); rintro e w' ⟨rfl, ⟨nd, rfl⟩⟩; (try first | exact ⟨rfl, _, World.drewN_drewN _ _ _⟩ | exact ⟨rfl, _, Eq.trans (World.drewN_drewN _ _ _) (congrArg (World.drewN _) (Nat.add_assoc _ _ _))⟩)))
                      repeat (go_quiet (first | (go_at_call 27; (with_reducible refine (octets_most.calls (rd l1 x21_2) t109 _ A11.out).mono ?_); rintro e w' ⟨rfl, ⟨nd, rfl⟩⟩; (try first | exact ⟨rfl, _, World.drewN_drewN _ _ _⟩ | exact ⟨rfl, _, Eq.trans (World.drewN_drewN _ _ _) (congrArg (World.drewN _) (Nat.add_assoc _ _ _))⟩))); try go_wp2_with (first | (go_at_call 27; (with_reducible refine (octets_most.calls (rd l1 x21_2) t109 _ A11.out).mono ?_); rintro e w' ⟨rfl, ⟨nd, rfl⟩⟩; (try first | exact ⟨rfl, _, World.drewN_drewN _ _ _⟩ | exact ⟨rfl, _, Eq.trans (World.drewN_drewN _ _ _) (congrArg (World.drewN _) (Nat.add_assoc _ _ _))⟩))))
                      go_ret2
                      exact ⟨by first | rfl | (simp [errW_none, errW_some] <;> rfl) | (simp [*, errW_none, errW_some] <;> rfl), by repeat (first | (with_reducible first | exact HB.out | apply below_alloc | apply pw_below_drewN | apply below_drew1) | exact HB.out)⟩
                    · rw [if_neg c12] at H
                      have c12b0 : decide (t109 < (rd l0 x21_2)) = false := decide_eq_false c12
                      clear c12
                      replace H := Option.bind_eq_some_iff.mp H
                      obtain ⟨t111, A130, H⟩ := H
                      replace H : (if x6_2.length + t111.length < 140737488355328 then (octets_Join.l0 k2 l0 (x6_2 ++ t111) l1 (l1.length : Int) (wrap64 (x21_2 + 1))) else (none)) = some (r1, r2) := H
                      have A13 := Aside0.mk A130
                      clear A130
                      by_cases c14 : x6_2.length + t111.length < 140737488355328
                      · rw [if_pos c14] at H
                        have LMc14 := Aside0.mk c14
                        clear c14
                        obtain ⟨y114, hy114⟩ : ∃ y_ : List Int, y_ = (x6_2 ++ t111) := ⟨_, rfl⟩
                        replace H : (octets_Join.l0 k2 l0 y114 l1 (l1.length : Int) (wrap64 (x21_2 + 1))) = some (r1, r2) := by first | (rw [hy114]; with_reducible exact H) | (have H2_ := (Option.bind_some _ _).symm.trans H; rw [hy114]; with_reducible exact H2_) | (have H2_ := (Option.bind_some _ _).symm.trans H; with_reducible exact H2_) | with_reducible exact H | (rw [hy114]; exact H) | exact H
                        have Ny114 := Aside0.mk hy114
                        clear hy114
                        have H' := Aside0.mk H
                        clear H
                        have p107 : 0 ≤ (x21_2 : Int) := of_decide_eq_true (by first | (with_reducible assumption) | assumption)
                        have q107 : x21_2 < (l1.length : Int) := of_decide_eq_true (by first | (with_reducible assumption) | assumption)
                        obtain ⟨ad107, e107, hx107_0⟩ := Kd.at_int HR1.out x21_2 p107 q107
                        cases e107
                        replace hx107_0 := (HB.out.cell (World.block_lt_of_cell? w _ hx107_0)).trans hx107_0
                        replace p107 := eq_true p107
                        replace q107 := eq_true q107
                        have p108 : 0 ≤ (x21_2 : Int) := of_decide_eq_true (by first | (with_reducible assumption) | assumption)
                        have q108 : x21_2 < (l0.length : Int) := of_decide_eq_true (by first | (with_reducible assumption) | assumption)
                        obtain ⟨ad108, e108, hx108_0⟩ := Kd.at_int HR0.out x21_2 p108 q108
                        cases e108
                        replace hx108_0 := (HB.out.cell (World.block_lt_of_cell? w _ hx108_0)).trans hx108_0
                        replace p108 := eq_true p108
                        replace q108 := eq_true q108
                        go_wp2_with (first | (go_at_call 27; (with_reducible refine (octets_most.calls (rd l1 x21_2) t109 _ A11.out).mono ?_); rintro e w' ⟨rfl, ⟨nd, rfl⟩⟩; (try first | exact ⟨rfl, _, World.drewN_drewN _ _ _⟩ | exact ⟨rfl, _, Eq.trans (World.drewN_drewN _ _ _) (congrArg (World.drewN _) (Nat.add_assoc _ _ _))⟩); have p110 : 0 ≤ (x21_2 : Int) := of_decide_eq_true (by first | (with_reducible assumption) | assumption); have q110 : x21_2 < (l0.length : Int) := of_decide_eq_true (by first | (with_reducible assumption) | assumption); obtain ⟨ad110, e110, hx110_0⟩ := Kd.at_int HR0.out x21_2 p110 q110; obtain rfl : ad108 = ad110 := (by injection e110); replace hx110_0 := (HB.out.cell (World.block_lt_of_cell? w _ hx110_0)).trans hx110_0; replace p110 := eq_true p110; replace q110 := eq_true q110) | (go_at_call 28; (with_reducible refine (octets_bytes.calls k2 (rd l0 x21_2) (rd l1 x21_2) t111 _ A13.out).mono ?_); rintro e w15 ⟨v112, rfl, ho0, hb⟩; have n0_ := Aside0.mk (Kd.R_elder' (by (with_reducible repeat (first | apply Kd.R_alloc | apply Kd.R_drewN | apply Kd.R_drew)); exact HO_6.out) (Kd.R_base ho0) hb); have n1_ := Aside0.mk (Kd.R_lower (Kd.R_new' ho0 (Kd.R_lt (by (with_reducible repeat (first | apply Kd.R_alloc | apply Kd.R_drewN | apply Kd.R_drew)); exact HO_6.out))) (below_size (by repeat (first | (with_reducible first | exact HB.out | apply below_alloc | apply pw_below_drewN | apply below_drew1) | exact HB.out)))); have n2_ := Aside0.mk (below_step (by repeat (first | (with_reducible first | exact HB.out | apply below_alloc | apply pw_below_drewN | apply below_drew1) | exact HB.out)) hb); clear HO_6; clear HB; have HO_6 := n0_; have HO113 := n1_; have HB := n2_; clear n0_ n1_ n2_; (try clear hb); (try clear hb2); (try clear hk); (try clear hi); (try clear ho0); obtain ⟨Ao17, co17, eo17⟩ := Kd.R_slice HO113.out; subst eo17) | ((with_reducible refine gate_builtin (b := .append) (xs := #[.tmp 33, .tmp 39]) rfl ?_); (try (refine gate_guard (by rfl) ?_; dsimp only)); at_builtin; refine Kd.R_append_rows (Kd.int .u8) (w0 := w) w.heap.size rfl (.tmp 33) (.tmp 39) 44 5 (.int .u8 0) 1 rfl Try.underlying44 info5 rfl (by decide) (by omega) u6 x6_2 t111 _ _ _ (fun k_ => some k_ ≠ (.slice Ao17 t111.length co17 : Value).ownBlock) (fun _ => False) rfl rfl ?aO ?aR (fun _ _ h => h) (fun _ h => h.elim) ?aF ?aB ?aS ?aL ?_; (case aR => repeat (first | exact (Kd.R_reads' HO113.out).2.2 | (with_reducible refine Kd.C_alloc ?_ _) | (with_reducible refine Kd.C_drewN ?_ _) | (with_reducible refine Kd.C_drew ?_))); (case aB => exact (by repeat (first | (with_reducible first | exact HB.out | apply below_alloc | apply pw_below_drewN | apply below_drew1) | exact HB.out))); (case aF => exact (fun k_ hk => Kd.fresh' (Kd.R_lt (by (with_reducible repeat (first | apply Kd.R_alloc | apply Kd.R_drewN | apply Kd.R_drew)); exact HO113.out)) k_ hk)); (case aO => exact (by (with_reducible repeat (first | apply Kd.R_alloc | apply Kd.R_drewN | apply Kd.R_drew)); exact Kd.R_mono HO_6.out (fun _ hk => hk.2))); (case aS => exact (below_size (by repeat (first | (with_reducible first | exact HB.out | apply below_alloc | apply pw_below_drewN | apply below_drew1) | exact HB.out)))); (case aL => have := LMc14.out; omega); intro v115 w16 ho hb hg hat; rw [← Ny114.out] at ho; have n0_ := Aside0.mk (Kd.R_after (ok := (fun _ => True)) (by (with_reducible repeat (first | apply Kd.R_alloc | apply Kd.R_drewN | apply Kd.R_drew)); exact HO113.out) hg hat); have n1_ := Aside0.mk (hb); have n2_ := Aside0.mk (ho); clear HO113; clear HB; clear HO_6; have HO113 := n0_; have HB := n1_; have HO116 := n2_; clear n0_ n1_ n2_; clear ho hb hg hat))
                        repeat (go_quiet (first | (go_at_call 27; (with_reducible refine (octets_most.calls (rd l1 x21_2) t109 _ A11.out).mono ?_); rintro e w' ⟨rfl, ⟨nd, rfl⟩⟩; (try first | exact ⟨rfl, _, World.drewN_drewN _ _ _⟩ | exact ⟨rfl, _, Eq.trans (World.drewN_drewN _ _ _) (congrArg (World.drewN _) (Nat.add_assoc _ _ _))⟩); have p110 : 0 ≤ (x21_2 : Int) := of_decide_eq_true (by first | (with_reducible assumption) | assumption); have q110 : x21_2 < (l0.length : Int) := of_decide_eq_true (by first | (with_reducible assumption) | assumption); obtain ⟨ad110, e110, hx110_0⟩ := Kd.at_int HR0.out x21_2 p110 q110; obtain rfl : ad108 = ad110 := (by injection e110); replace hx110_0 := (HB.out.cell (World.block_lt_of_cell? w _ hx110_0)).trans hx110_0; replace p110 := eq_true p110; replace q110 := eq_true q110) | (go_at_call 28; (with_reducible refine (octets_bytes.calls k2 (rd l0 x21_2) (rd l1 x21_2) t111 _ A13.out).mono ?_); rintro e w15 ⟨v112, rfl, ho0, hb⟩; have n0_ := Aside0.mk (Kd.R_elder' (by (with_reducible repeat (first | apply Kd.R_alloc | apply Kd.R_drewN | apply Kd.R_drew)); exact HO_6.out) (Kd.R_base ho0) hb); have n1_ := Aside0.mk (Kd.R_lower (Kd.R_new' ho0 (Kd.R_lt (by (with_reducible repeat (first | apply Kd.R_alloc | apply Kd.R_drewN | apply Kd.R_drew)); exact HO_6.out))) (below_size (by repeat (first | (with_reducible first | exact HB.out | apply below_alloc | apply pw_below_drewN | apply below_drew1) | exact HB.out)))); have n2_ := Aside0.mk (below_step (by repeat (first | (with_reducible first | exact HB.out | apply below_alloc | apply pw_below_drewN | apply below_drew1) | exact HB.out)) hb); clear HO_6; clear HB; have HO_6 := n0_; have HO113 := n1_; have HB := n2_; clear n0_ n1_ n2_; (try clear hb); (try clear hb2); (try clear hk); (try clear hi); (try clear ho0); obtain ⟨Ao17, co17, eo17⟩ := Kd.R_slice HO113.out; subst eo17) | ((with_reducible refine gate_builtin (b := .append) (xs := #[.tmp 33, .tmp 39]) rfl ?_); (try (refine gate_guard (by rfl) ?_; dsimp only)); at_builtin; refine Kd.R_append_rows (Kd.int .u8) (w0 := w) w.heap.size rfl (.tmp 33) (.tmp 39) 44 5 (.int .u8 0) 1 rfl Try.underlying44 info5 rfl (by decide) (by omega) u6 x6_2 t111 _ _ _ (fun k_ => some k_ ≠ (.slice Ao17 t111.length co17 : Value).ownBlock) (fun _ => False) rfl rfl ?aO ?aR (fun _ _ h => h) (fun _ h => h.elim) ?aF ?aB ?aS ?aL ?_; (case aR => repeat (first | exact (Kd.R_reads' HO113.out).2.2 | (with_reducible refine Kd.C_alloc ?_ _) | (with_reducible refine Kd.C_drewN ?_ _) | (with_reducible refine Kd.C_drew ?_))); (case aB => exact (by repeat (first | (with_reducible first | exact HB.out | apply below_alloc | apply pw_below_drewN | apply below_drew1) | exact HB.out))); (case aF => exact (fun k_ hk => Kd.fresh' (Kd.R_lt (by (with_reducible repeat (first | apply Kd.R_alloc | apply Kd.R_drewN | apply Kd.R_drew)); exact HO113.out)) k_ hk)); (case aO => exact (by (with_reducible repeat (first | apply Kd.R_alloc | apply Kd.R_drewN | apply Kd.R_drew)); exact Kd.R_mono HO_6.out (fun _ hk => hk.2))); (case aS => exact (below_size (by repeat (first | (with_reducible first | exact HB.out | apply below_alloc | apply pw_below_drewN | apply below_drew1) | exact HB.out)))); (case aL => have := LMc14.out; omega); intro v115 w16 ho hb hg hat; rw [← Ny114.out] at ho; have n0_ := Aside0.mk (Kd.R_after (ok := (fun _ => True)) (by (with_reducible repeat (first | apply Kd.R_alloc | apply Kd.R_drewN | apply Kd.R_drew)); exact HO113.out) hg hat); have n1_ := Aside0.mk (hb); have n2_ := Aside0.mk (ho); clear HO113; clear HB; clear HO_6; have HO113 := n0_; have HB := n1_; have HO116 := n2_; clear n0_ n1_ n2_; clear ho hb hg hat)); try go_wp2_with (first | (go_at_call 27; (with_reducible refine (octets_most.calls (rd l1 x21_2) t109 _ A11.out).mono ?_); rintro e w' ⟨rfl, ⟨nd, rfl⟩⟩; (try first | exact ⟨rfl, _, World.drewN_drewN _ _ _⟩ | exact ⟨rfl, _, Eq.trans (World.drewN_drewN _ _ _) (congrArg (World.drewN _) (Nat.add_assoc _ _ _))⟩); have p110 : 0 ≤ (x21_2 : Int) := of_decide_eq_true (by first | (with_reducible assumption) | assumption); have q110 : x21_2 < (l0.length : Int) := of_decide_eq_true (by first | (with_reducible assumption) | assumption); obtain ⟨ad110, e110, hx110_0⟩ := Kd.at_int HR0.out x21_2 p110 q110; obtain rfl : ad108 = ad110 := (by injection e110); replace hx110_0 := (HB.out.cell (World.block_lt_of_cell? w _ hx110_0)).trans hx110_0; replace p110 := eq_true p110; replace q110 := eq_true q110) | (go_at_call 28; (with_reducible refine (octets_bytes.calls k2 (rd l0 x21_2) (rd l1 x21_2) t111 _ A13.out).mono ?_); rintro e w15 ⟨v112, rfl, ho0, hb⟩; have n0_ := Aside0.mk (Kd.R_elder' (by (with_reducible repeat (first | apply Kd.R_alloc | apply Kd.R_drewN | apply Kd.R_drew)); exact HO_6.out) (Kd.R_base ho0) hb); have n1_ := Aside0.mk (Kd.R_lower (Kd.R_new' ho0 (Kd.R_lt (by (with_reducible repeat (first | apply Kd.R_alloc | apply Kd.R_drewN | apply Kd.R_drew)); exact HO_6.out))) (below_size (by repeat (first | (with_reducible first | exact HB.out | apply below_alloc | apply pw_below_drewN | apply below_drew1) | exact HB.out)))); have n2_ := Aside0.mk (below_step (by repeat (first | (with_reducible first | exact HB.out | apply below_alloc | apply pw_below_drewN | apply below_drew1) | exact HB.out)) hb); clear HO_6; clear HB; have HO_6 := n0_; have HO113 := n1_; have HB := n2_; clear n0_ n1_ n2_; (try clear hb); (try clear hb2); (try clear hk); (try clear hi); (try clear ho0); obtain ⟨Ao17, co17, eo17⟩ := Kd.R_slice HO113.out; subst eo17) | ((with_reducible refine gate_builtin (b := .append) (xs := #[.tmp 33, .tmp 39]) rfl ?_); (try (refine gate_guard (by rfl) ?_; dsimp only)); at_builtin; refine Kd.R_append_rows (Kd.int .u8) (w0 := w) w.heap.size rfl (.tmp 33) (.tmp 39) 44 5 (.int .u8 0) 1 rfl Try.underlying44 info5 rfl (by decide) (by omega) u6 x6_2 t111 _ _ _ (fun k_ => some k_ ≠ (.slice Ao17 t111.length co17 : Value).ownBlock) (fun _ => False) rfl rfl ?aO ?aR (fun _ _ h => h) (fun _ h => h.elim) ?aF ?aB ?aS ?aL ?_; (case aR => repeat (first | exact (Kd.R_reads' HO113.out).2.2 | (with_reducible refine Kd.C_alloc ?_ _) | (with_reducible refine Kd.C_drewN ?_ _) | (with_reducible refine Kd.C_drew ?_))); (case aB => exact (by repeat (first | (with_reducible first | exact HB.out | apply below_alloc | apply pw_below_drewN | apply below_drew1) | exact HB.out))); (case aF => exact (fun k_ hk => Kd.fresh' (Kd.R_lt (by (with_reducible repeat (first | apply Kd.R_alloc | apply Kd.R_drewN | apply Kd.R_drew)); exact HO113.out)) k_ hk)); (case aO => exact (by (with_reducible repeat (first | apply Kd.R_alloc | apply Kd.R_drewN | apply Kd.R_drew)); exact Kd.R_mono HO_6.out (fun _ hk => hk.2))); (case aS => exact (below_size (by repeat (first | (with_reducible first | exact HB.out | apply below_alloc | apply pw_below_drewN | apply below_drew1) | exact HB.out)))); (case aL => have := LMc14.out; omega); intro v115 w16 ho hb hg hat; rw [← Ny114.out] at ho; have n0_ := Aside0.mk (Kd.R_after (ok := (fun _ => True)) (by (with_reducible repeat (first | apply Kd.R_alloc | apply Kd.R_drewN | apply Kd.R_drew)); exact HO113.out) hg hat); have n1_ := Aside0.mk (hb); have n2_ := Aside0.mk (ho); clear HO113; clear HB; clear HO_6; have HO113 := n0_; have HB := n1_; have HO116 := n2_; clear n0_ n1_ n2_; clear ho hb hg hat)))
                        go_roundg k2
                        case measure => have := HJ2.out; have := HK2.out; omega
                        case rel => exact ⟨(y114), (wrap64 (x21_2 + 1)), (by first | rfl | (simp; done) | (simp [*]; done)), H', ⟨by have := HJ2.out; have := HK2.out; omega⟩, ⟨by (with_reducible repeat (first | apply Kd.R_alloc | apply Kd.R_drewN | apply Kd.R_drew)); exact Kd.R_mono HO116.out (fun _ hk => trivial)⟩, ⟨by repeat (first | (with_reducible first | exact HB.out | apply below_alloc | apply pw_below_drewN | apply below_drew1) | exact HB.out)⟩⟩
                      · rw [if_neg c14] at H
                        exact absurd H (by simp)
                  · rw [if_neg c10] at H
                    exact absurd H (by simp)
                · rw [if_neg c9] at H
                  exact absurd H (by simp)
              · rw [if_neg c8] at H
                exact absurd H (by simp)
            · rw [if_neg c7] at H
              have c7b0 : decide (x21_2 < (l1.length : Int)) = false := decide_eq_false c7
              clear c7
              simp only [Option.some.injEq, Prod.mk.injEq] at H
              obtain ⟨rfl, rfl⟩ := H
              have hcv18 := own_string (P := Try.prog) Try.underlying44 Try.underlying5 Try.underlying9 (Kd.own_of_R HO_6.out)
              go_wp2
              repeat (go_quiet (fail); try go_wp2)
              go_ret2
              exact ⟨by first | rfl | (simp [errW_none, errW_some] <;> rfl) | (simp [*, errW_none, errW_some] <;> rfl), by repeat (first | (with_reducible first | exact HB.out | apply below_alloc | apply pw_below_drewN | apply below_drew1) | exact HB.out)⟩

-- NOT PRINTED: function 12 (pack_Packer_Name)

-- NOT PRINTED: function 15 (pack_Packer_Len)

-- NOT PRINTED: function 16 (pack_Packer_Bytes)

-- NOT PRINTED: function 8 (beadrolllaw09_awake)

/-! ### beadrolllaw09_few: function 9 -/
mutual
def beadrolllaw09_few.l0 : Nat → List (S31) → Int → Option (Bool)
  | 0, _, _ => none
  | k + 1, x0, x3 => if x3 < (x0.length : Int) then (beadrolllaw09_few.j1 k x0 x3 (decide (x3 < 50))) else (beadrolllaw09_few.j1 k x0 x3 false)
def beadrolllaw09_few.j1 : Nat → List (S31) → Int → Bool → Option (Bool)
  | 0, _, _, _ => none
  | k + 1, x0, x3, x11 => if x11 = true then (if 0 ≤ x3 then (if x3 < (x0.length : Int) then (if (((rd_T31 x0 x3).f1).size : Int) > 17000 then (some false) else (beadrolllaw09_few.l0 k x0 (wrap64 (x3 + 1)))) else (none)) else (none)) else (some (decide ((x0.length : Int) ≤ 40)))
end
def beadrolllaw09_few.f (k : Nat) (l0 : List (S31)) : Option (Bool) := beadrolllaw09_few.l0 k l0 0
theorem beadrolllaw09_few.mono_l : ∀ k, (∀ y0 y1, LeO (beadrolllaw09_few.l0 k y0 y1) (beadrolllaw09_few.l0 (k + 1) y0 y1)) ∧ (∀ y0 y1 y2, LeO (beadrolllaw09_few.j1 k y0 y1 y2) (beadrolllaw09_few.j1 (k + 1) y0 y1 y2))
  | 0 => ⟨fun _ _ r h => by simp [beadrolllaw09_few.l0] at h, fun _ _ _ r h => by simp [beadrolllaw09_few.j1] at h⟩
  | k + 1 => by
    obtain ⟨ih0, ih1⟩ := beadrolllaw09_few.mono_l k
    refine ⟨?_, ?_⟩
    · intro y0 y1
      unfold beadrolllaw09_few.l0
      repeat' first
      | (with_reducible exact ih0 _ _)
      | (with_reducible exact ih1 _ _ _)
      | (with_reducible exact LeO.refl _)
      | (with_reducible exact LeO.none _)
      | (with_reducible refine LeO.ite ?_ ?_)
      | (with_reducible refine LeO.bind ?_ (fun _ => ?_))
      | exact ih0 _ _
      | exact ih1 _ _ _
      | exact LeO.none _
      | refine LeO.ite ?_ ?_
      | refine LeO.bind ?_ (fun _ => ?_)
    · intro y0 y1 y2
      unfold beadrolllaw09_few.j1
      repeat' first
      | (with_reducible exact ih0 _ _)
      | (with_reducible exact ih1 _ _ _)
      | (with_reducible exact LeO.refl _)
      | (with_reducible exact LeO.none _)
      | (with_reducible refine LeO.ite ?_ ?_)
      | (with_reducible refine LeO.bind ?_ (fun _ => ?_))
      | exact ih0 _ _
      | exact ih1 _ _ _
      | exact LeO.none _
      | refine LeO.ite ?_ ?_
      | refine LeO.bind ?_ (fun _ => ?_)
theorem beadrolllaw09_few.mono : ∀ a0 k, LeO (beadrolllaw09_few.f k a0) (beadrolllaw09_few.f (k + 1) a0) := by
  intro a0 k
  obtain ⟨ih0, ih1⟩ := beadrolllaw09_few.mono_l k
  unfold beadrolllaw09_few.f
  repeat' first
      | (with_reducible exact ih0 _ _)
      | (with_reducible exact ih1 _ _ _)
      | (with_reducible exact LeO.refl _)
      | (with_reducible exact LeO.none _)
      | (with_reducible refine LeO.ite ?_ ?_)
      | (with_reducible refine LeO.bind ?_ (fun _ => ?_))
      | exact ih0 _ _
      | exact ih1 _ _ _
      | exact LeO.none _
      | refine LeO.ite ?_ ?_
      | refine LeO.bind ?_ (fun _ => ?_)
set_option maxHeartbeats 8000000 in
set_option maxRecDepth 100000 in
theorem beadrolllaw09_few.calls (k : Nat) (A0 : Option Addr) (c0 : Nat) (l0 : List (S31)) (r : Bool) (w : World) (hr0 : Kd.C k31 w A0 l0.length l0) (hc0 : l0.length ≤ c0) (h : beadrolllaw09_few.f k l0 = some r) :
    Calls Try.prog 9 #[.slice A0 l0.length c0] w fun e w' => e = .returned (.bool r) ∧ Drawn0 w w' := by
  have HR0 := Aside0.mk hr0
  have HC0 := Aside0.mk hc0
  clear hr0 hc0
  have H : (beadrolllaw09_few.l0 k l0 0) = some r := h
  clear h
  have H' := Aside0.mk H
  clear H
  go_enter Try.func9, Try.ntmps9
  go_wp2
  go_loopg [3] k (fun kq v3 w' => ∃ (x3_1 : Int), v3 = .int .i64 x3_1 ∧ Aside0 (beadrolllaw09_few.l0 kq l0 x3_1 = some r) ∧ Aside0 (kq ≤ k) ∧ Drawn0 w w')
  case atStart => exact ⟨(0), (by first | rfl | (simp; done) | (simp [*]; done)), H', ⟨Nat.le_refl _⟩, by repeat (first | exact Drawn0.refl _ | apply Drawn0.step)⟩
  case round =>
    clear H'
    obtain ⟨x3_1, rfl, HA, HK1, ⟨m1, rfl⟩⟩ := hrel
    cases gk with
    | zero => exact absurd HA.out (by simp [beadrolllaw09_few.l0])
    | succ k1 =>
      have H := HA.out
      clear HA
      simp only [beadrolllaw09_few.l0] at H
      have HC2 := Aside0.mk H
      clear H
      go_upto_region 2 with (fail)
      go_cut [11] (fun v11 wc => ∃ (kq : Nat) (x11_1 : Bool), v11 = .bool x11_1 ∧ Aside0 (beadrolllaw09_few.j1 kq l0 x3_1 x11_1 = some r) ∧ Aside0 (kq ≤ k1) ∧ Drawn0 w wc)
      case first =>
        have H := HC2.out
        clear HC2
        by_cases c3 : x3_1 < (l0.length : Int)
        · rw [if_pos c3] at H
          have c3b0 : decide (x3_1 < (l0.length : Int)) = true := decide_eq_true c3
          clear c3
          (first | rw [c3b0] | (simp only [i64_w, i32_w]; rw [c3b0]) | skip)
          have H' := Aside0.mk H
          clear H
          go_wp2
          go_meet
          case rel => exact ⟨_, (decide (x3_1 < 50)), (by first | rfl | (simp; done) | (simp [*]; done)), H', ⟨by have := HK1.out; first | omega | exact Nat.le_refl _⟩, by repeat (first | exact Drawn0.refl _ | apply Drawn0.step)⟩
        · rw [if_neg c3] at H
          have c3b0 : decide (x3_1 < (l0.length : Int)) = false := decide_eq_false c3
          clear c3
          (first | rw [c3b0] | (simp only [i64_w, i32_w]; rw [c3b0]) | skip)
          have H' := Aside0.mk H
          clear H
          go_wp2
          go_meet
          case rel => exact ⟨_, (false), (by first | rfl | (simp; done) | (simp [*]; done)), H', ⟨by have := HK1.out; first | omega | exact Nat.le_refl _⟩, by repeat (first | exact Drawn0.refl _ | apply Drawn0.step)⟩
      case rest =>
        clear HC2
        try clear p2
        try clear c3
        try clear c3b0
        obtain ⟨kq, x11_1, rfl, HA, HJ1, ⟨mc1, rfl⟩⟩ := hcut
        cases kq with
        | zero => exact absurd HA.out (by simp [beadrolllaw09_few.j1])
        | succ kj1 =>
          have H := HA.out
          clear HA
          simp only [beadrolllaw09_few.j1] at H
          by_cases c4 : x11_1 = true
          · subst c4
            have H1 : (if 0 ≤ x3_1 then (if x3_1 < (l0.length : Int) then (if (((rd_T31 l0 x3_1).f1).size : Int) > 17000 then (some false) else (beadrolllaw09_few.l0 kj1 l0 (wrap64 (x3_1 + 1)))) else (none)) else (none)) = some r := by rw [if_pos rfl] at H; exact H
            clear H
            have H := H1
            clear H1
            by_cases c5 : 0 ≤ x3_1
            · rw [if_pos c5] at H
              have c5b0 : decide (0 ≤ x3_1) = true := decide_eq_true c5
              clear c5
              by_cases c6 : x3_1 < (l0.length : Int)
              · rw [if_pos c6] at H
                have c6b0 : decide (x3_1 < (l0.length : Int)) = true := decide_eq_true c6
                clear c6
                by_cases c7 : (((rd_T31 l0 x3_1).f1).size : Int) > 17000
                · rw [if_pos c7] at H
                  have c7b0 : decide (17000 < (((rd_T31 l0 x3_1).f1).size : Int)) = true := decide_eq_true c7
                  have c7b1 : decide (17000 < ((rd_T31 l0 x3_1).f1).size) = true := decide_eq_true (by omega)
                  clear c7
                  obtain rfl := Option.some.inj H
                  have p117 : 0 ≤ (x3_1 : Int) := of_decide_eq_true (by first | (with_reducible assumption) | assumption)
                  have q117 : x3_1 < (l0.length : Int) := of_decide_eq_true (by first | (with_reducible assumption) | assumption)
                  obtain ⟨ad117, e117, hx117_0, hx117_1, hx117_2⟩ := at_T31 HR0.out x3_1 p117 q117
                  cases e117
                  replace p117 := eq_true p117
                  replace q117 := eq_true q117
                  go_wp2
                  go_ret
                  exact ⟨by first | rfl | (simp; done) | (simp [*]; done), by repeat (first | exact Drawn0.refl _ | apply Drawn0.step)⟩
                · rw [if_neg c7] at H
                  have c7b0 : decide (17000 < (((rd_T31 l0 x3_1).f1).size : Int)) = false := decide_eq_false c7
                  have c7b1 : decide (17000 < ((rd_T31 l0 x3_1).f1).size) = false := decide_eq_false (by omega)
                  clear c7
                  have H' := Aside0.mk H
                  clear H
                  have p117 : 0 ≤ (x3_1 : Int) := of_decide_eq_true (by first | (with_reducible assumption) | assumption)
                  have q117 : x3_1 < (l0.length : Int) := of_decide_eq_true (by first | (with_reducible assumption) | assumption)
                  obtain ⟨ad117, e117, hx117_0, hx117_1, hx117_2⟩ := at_T31 HR0.out x3_1 p117 q117
                  cases e117
                  replace p117 := eq_true p117
                  replace q117 := eq_true q117
                  go_wp2
                  go_roundg kj1
                  case measure => have := HK1.out; have := HJ1.out; omega
                  case rel => exact ⟨(wrap64 (x3_1 + 1)), (by first | rfl | (simp; done) | (simp [*]; done)), H', ⟨by have := HK1.out; have := HJ1.out; omega⟩, by repeat (first | exact Drawn0.refl _ | apply Drawn0.step)⟩
              · rw [if_neg c6] at H
                exact absurd H (by simp)
            · rw [if_neg c5] at H
              exact absurd H (by simp)
          · replace c4 := Bool.eq_false_iff.mpr c4
            subst c4
            have H1 : (some (decide ((l0.length : Int) ≤ 40))) = some r := by rw [if_neg (show ¬ (false = true) by decide)] at H; exact H
            clear H
            have H := H1
            clear H1
            obtain rfl := Option.some.inj H
            go_wp2
            go_ret
            exact ⟨by first | rfl | (simp; done) | (simp [*]; done), by repeat (first | exact Drawn0.refl _ | apply Drawn0.step)⟩

end Go.Proofs.Ytekbecpcbfhdmaa.PJn
/- octets.Join of one number of two bytes. -/
namespace Go.Proofs.Ytekbecpcbfhdmaa.Pack
open Go.RowKit Go.Proofs.YtekbecpcbfhdmaaW.PrintWords Go.Proofs.Ytekbecpcbfhdmaa.Oct Go.Proofs.Ytekbecpcbfhdmaa.PJn
theorem two (x : Nat) : beB 2 x = [UInt8.ofNat (x / 256 % 256), UInt8.ofNat (x % 256)] := by simp [beB]
theorem join_two (x : Nat) (h : x < 65536) : octets_Join.f 10 [(x : Int)] [2] = some (arr (beB 2 x), 0) := by
  have h1 : octets_whole.f 10 [2] = some true := by decide +kernel
  have h2 : octets_most.f 2 = some 65535 := by decide +kernel
  have e8 : (2 : Int) ^ min (Int.toNat 8) IntKind.u64.bits = 256 := by decide +kernel
  have e0 : (2 : Int) ^ min (Int.toNat 0) IntKind.u64.bits = 1 := by decide +kernel
  have hs1 : (shr .u64 (x : Int) 8) = ((x / 256 : Nat) : Int) := by unfold shr; rw [e8]; omega
  have hs0 : (shr .u64 (x : Int) 0) = (x : Int) := by unfold shr; rw [e0]; omega
  have hb : octets_bytes.f 8 (x : Int) 2 = some (bnums (beB 2 x)) := by
    unfold octets_bytes.f
    rw [show wrap64 (2 - 1) = 1 by decide +kernel, octets_bytes.l0, if_pos (by decide +kernel), if_pos (by decide +kernel), if_pos (by decide +kernel), show wrap64 (8 * 1) = 8 by decide +kernel, hs1, show wrap64 (1 - 1) = 0 by decide +kernel]
    rw [octets_bytes.l0, if_pos (by decide +kernel), if_pos (by decide +kernel), if_pos (by simp), show wrap64 (8 * 0) = 0 by decide +kernel, hs0, show wrap64 (0 - 1) = -1 by decide +kernel]
    rw [octets_bytes.l0, if_neg (by decide +kernel), two]
    simp [bnums]
  unfold octets_Join.f
  rw [h1]
  rw [Option.bind_some, if_pos rfl, octets_Join.j0, if_neg (by simp), octets_Join.l0, if_pos (by decide +kernel), if_pos (by decide +kernel), if_pos (by decide +kernel), if_pos (by simp)]
  rw [show rd [(2 : Int)] 0 = 2 from rfl, show rd [(x : Int)] 0 = x from rfl, h2, Option.bind_some, if_neg (by omega), hb, Option.bind_some, if_pos (by simp [two, bnums]), show wrap64 (0 + 1) = 1 by decide +kernel, octets_Join.l0, if_neg (by decide +kernel), List.nil_append, str_bnums]
end Go.Proofs.Ytekbecpcbfhdmaa.Pack
/- The packer's Name. -/
namespace Go.Proofs.Ytekbecpcbfhdmaa.Pack
open Go.RowKit Go.Proofs.YtekbecpcbfhdmaaW.PrintWords Go.Proofs.Ytekbecpcbfhdmaa.Oct Go.Proofs.Ytekbecpcbfhdmaa.Name Go.Maps Go.WideMaps
set_option linter.unusedVariables false
theorem stringLaw : Keyed Try.prog 9 := string_keyed Try.underlying9
theorem zeroInt (w : World) : (zeroValue 3).run Try.prog w = .ok (.int .i64 0) w := by kernel_rfl
theorem Stepped.step {lo p mb : Nat} {g g1 : Option Nat} {bs2 : List UInt8} {K2 : List (ByteArray × Nat)} {a b c : World} (ht1 : Touch (Own p mb g) a b) (hg1 : ∀ k, g1 = some k → g = some k ∨ a.heap.size ≤ k)
    (h2 : Stepped lo p mb g1 bs2 K2 b c) : Stepped lo p mb g bs2 K2 a c := by
  obtain ⟨⟨g2, hp2, hg2⟩, ht2⟩ := h2
  have hs := ht1.size
  refine ⟨⟨g2, hp2, fun k hk => ?_⟩, ht1.trans ht2 fun k hk ho => ?_⟩
  · rcases hg2 k hk with e | e
    · exact hg1 k e
    · exact .inr (by omega)
  · rcases ho with e | e | e
    · exact .inl e
    · exact .inr (.inl e)
    · rcases hg1 k e with e' | e'
      · exact .inr (.inr e')
      · omega
theorem Stepped.behind {lo p mb : Nat} {g : Option Nat} {bs2 : List UInt8} {K2 : List (ByteArray × Nat)} {a b c : World} (hb : Below a.heap.size a b) (h2 : Stepped lo p mb g bs2 K2 b c) : Stepped lo p mb g bs2 K2 a c :=
  Stepped.step (Touch.of_below hb) (fun _ h => .inl h) h2
theorem Stepped.of_below {lo p mb : Nat} {g : Option Nat} {bs : List UInt8} {K : List (ByteArray × Nat)} {w w' : World} (h : Pk lo p mb g bs K w) (hb : Below w.heap.size w w') : Stepped lo p mb g bs K w w' :=
  ⟨⟨g, h.below hb, fun k hk => .inl hk⟩, Touch.of_below hb⟩
theorem Stepped.cong {lo p mb : Nat} {g : Option Nat} {bs bs' : List UInt8} {K K' : List (ByteArray × Nat)} {w w' : World} (h : Stepped lo p mb g bs K w w') (h1 : bs = bs') (h2 : K = K') : Stepped lo p mb g bs' K' w w' := by subst h1 h2; exact h
/-- A store into the map. -/
theorem stored {lo p mb : Nat} {g : Option Nat} {bs : List UInt8} {K : List (ByteArray × Nat)} {w w' : World} {D' : DataW Unit} {n : ByteArray} {i : Nat} (h : Pk lo p mb g bs K w)
    (hs : Says D' ((n, i) :: K)) (hown : w'.ownsMap Try.prog 9 (plainElem Try.prog 3) mb (K.length + 1) D') (hg : w.grownBy w' (some mb)) : Stepped lo p mb g bs ((n, i) :: K) w w' := by
  have hm := h.map
  obtain ⟨D0, _, es, clock, hmb, _⟩ := hm
  have hT : Touch (fun k => k = mb) w w' := Touch.of_grown hg (fun k hk => (Option.some.inj hk).symm)
  obtain ⟨v, hv, hc, hr⟩ := h.cells
  have hpm : p ≠ mb := by
    intro e; rw [e] at hc; rw [hc] at hmb; simp at hmb
  have hgm : v.ownBlock ≠ some mb := by
    intro e
    rcases hr.2 with ⟨rfl, _⟩ | ⟨g0, cap, cur, rfl, hl, hh, r⟩
    · cases e
    · simp only [Value.ownBlock, Option.some.injEq] at e
      subst e
      rw [hmb] at hh; simp at hh
  refine ⟨⟨g, ⟨h.lop, h.lom, Nat.lt_of_lt_of_le h.ltp hT.size, ⟨v, hv, (hT.block p h.ltp hpm).trans hc, row_touch hr hT fun k hk e => hgm (e ▸ hk)⟩, ⟨D', hs, by simpa using hown⟩⟩, fun k hk => .inl hk⟩, hT.mono fun k _ e => .inr (.inl e)⟩
theorem intLit (i : Nat) (h : i < 16384) : (Lit.int .i64 (i : Int)).wf = true := by
  have e1 : IntKind.i64.min = -9223372036854775808 := by decide +kernel
  have e2 : IntKind.i64.max = 9223372036854775807 := by decide +kernel
  have h1 : decide (IntKind.i64.min ≤ (i : Int)) = true := decide_eq_true (by omega)
  have h2 : decide ((i : Int) ≤ IntKind.i64.max) = true := decide_eq_true (by omega)
  simp only [Lit.wf, h1, h2, Bool.and_self]
theorem one_row (k : IntKind) (W : World) (B : Nat) (x : Int) (h : W.cell? ⟨B, 0, none⟩ = some (.int k x)) : Kd.C (Kd.int k) W (some ⟨B, 0, none⟩) [x].length [x] := by
  refine ⟨rfl, by simp, fun _ => ⟨_, rfl, fun j p hp => ?_⟩⟩
  obtain ⟨rfl, rfl⟩ : j = 0 ∧ p = x := by
    cases j with
    | zero => simp at hp; exact ⟨rfl, hp.symm⟩
    | succ j => simp at hp
  refine ⟨[.int k p], rfl, rfl, fun i u hu => ?_⟩
  cases i with
  | zero => simp at hu; subst hu; exact h
  | succ i => simp at hu
theorem join_call (x : Nat) (hx : x < 65536) (A B : Nat) (W : World) (c1 : W.cell? ⟨A, 0, none⟩ = some (.int .u64 (x : Int))) (c2 : W.cell? ⟨B, 0, none⟩ = some (.int .i64 2)) :
    Calls Try.prog 20 #[.slice (some ⟨A, 0, none⟩) 1 1, .slice (some ⟨B, 0, none⟩) 1 1] W fun e w' => e = .returned (.tuple #[.string (arr (beB 2 x)), .int .i64 0]) ∧ Below W.heap.size W w' :=
  PJn.octets_Join.calls 10 (some ⟨A, 0, none⟩) 1 [(x : Int)] (some ⟨B, 0, none⟩) 1 [2] _ _ W (one_row _ _ _ _ c1) (Nat.le_refl 1) (one_row _ _ _ _ c2) (Nat.le_refl 1) (join_two x hx)
theorem look_run {mb : Nat} {D : DataW Unit} {K : List (ByteArray × Nat)} {wr : World} {n : ByteArray} (hs : Says D K) (hm : wr.ownsMap Try.prog 9 (plainElem Try.prog 3) mb K.length D) (hn : n.size ≤ maxLen) :
    (Instr.lookup 47 (.map (some mb)) (.string n) true).run Try.prog wr = .ok (.tuple #[.int .i64 (((look K n).getD 0 : Nat) : Int), .bool (look K n).isSome]) wr := by
  have hkey : keyOf Try.prog 9 (.string n) = some (klit n) := keyOf_string_mk Try.underlying9 hn
  obtain ⟨v, ps, hrun, hv⟩ := hm.look_ok stringLaw Try.underlying47 (zeroInt wr) (plainElem_int Try.underlying3 (by decide +kernel)) hkey
  obtain ⟨c, rfl, hc, hwc⟩ := plainElem_int_inv Try.underlying3 hv
  have hc := congrArg Prod.fst hc
  rw [hrun, (hs.2 n).1]
  cases hl : look K n with
  | none =>
    have h0 : Maps.has D (klit n) = false := by rw [(hs.2 n).1, hl]; rfl
    rw [Maps.atKey_of_not_has h0] at hc
    injection hc with hc; injection hc with _ hc
    rw [← hc]; rfl
  | some q =>
    have hq : D.atKey (klit n) _ = DataW.lit (.int .i64 c) := hc
    rw [(hs.2 n).2 q hl] at hq
    injection hq with hq; injection hq with _ hq
    rw [← hq]; rfl
def strLen : Value → Nat
  | .string s => s.size
  | _ => 0
set_option maxHeartbeats 4000000 in
set_option maxRecDepth 100000 in
theorem Name (lo p mb : Nat) (g : Option Nat) (K : List (ByteArray × Nat)) (bs : List UInt8) (n : ByteArray) (may : Bool) (w : World) (h : Pk lo p mb g bs K w) (hr : rightB n = true) (hS : Small K) (hlen : bs.length + n.size + 2 ≤ 1000000) (hK : K.length + n.size ≤ 1000000) (hBw : lo ≤ w.heap.size) :
    Calls Try.prog 12 #[.pointer (some ⟨p, 0, none⟩), .string n, .bool may] w fun e w' => e = .returned (.int .i64 0) ∧ Stepped lo p mb g (putName n may (bs, K)).1 (putName n may (bs, K)).2 w w' := by
  have hq := fun W => right_any n W
  rw [hr] at hq
  go_enter Try.func12, Try.ntmps12
  go_wp2_with fail
  refine (hq _).mono ?_
  rintro e w1 ⟨rfl, hb1⟩
  go_wp2_with fail
  have h1 : Stepped lo p mb g bs K w w1 := Stepped.of_below h hb1
  have hl1 : lo ≤ w1.heap.size := Nat.le_trans hBw hb1.size
  go_loopw [1] (fun v wr => ∃ n1 bs1 K1, v = .string n1 ∧ rightB n1 = true ∧ Hid (putName n may (bs, K) = putName n1 may (bs1, K1)) ∧ Hid (Stepped lo p mb g bs1 K1 w wr) ∧ Small K1 ∧ bs1.length + n1.size + 2 ≤ 1000000 ∧ K1.length + n1.size ≤ 1000000 ∧ lo ≤ wr.heap.size) (fun v _ => strLen v)
  case atStart => exact ⟨n, bs, K, rfl, hr, Lib.hid rfl, Lib.hid h1, hS, hlen, hK, hl1⟩
  case round =>
    obtain ⟨n1, bs1, K1, rfl, hr1, hP, hSt, hS1, hlen1, hK1, hlo1⟩ := hrel
    clear h1 hb1 hl1 h hr hS hlen hK
    obtain ⟨⟨g1, hpk, hg1⟩, hT⟩ := hSt.out
    have HT := Lib.hid hT
    have HG := Lib.hid hg1
    clear hT hg1
    have HPK := Lib.hid hpk
    obtain ⟨v, hv, hb, hown⟩ := hpk.cells
    obtain ⟨cp, ad, rfl⟩ : ∃ c a, v = .slice a bs1.length c := by
      rcases hown.2 with ⟨rfl, h0⟩ | ⟨g0, cap, cur, rfl, hl, hh, r⟩
      · exact ⟨0, none, by rw [h0]⟩
      · exact ⟨_, _, rfl⟩
    obtain ⟨D, hSays, hmap⟩ := hpk.map
    have HSays := Lib.hid hSays
    have HM := Lib.hid hmap
    clear hpk hown hv hmap hSays
    have c1 : wr.cell? ⟨p, 1, none⟩ = some (.map (some mb)) := Lib.cell_of_heap hb 1
    have f1 : wr.frozen? ⟨p, 1, none⟩ = false := Lib.frozen_of_heap hb 1
    have c0 : wr.cell? ⟨p, 0, none⟩ = some (.slice ad bs1.length cp) := Lib.cell_of_heap hb 0
    have HB := Lib.hid hb
    clear hb
    by_cases hroot : n1 = rootB
    · subst hroot
      unfold rootB
      go_wp2_with fail
      refine (Raw lo p mb g1 K1 bs1 ⟨#[0]⟩ wr HPK.out (by show bs1.length + 1 ≤ 1000000; have : rootB.size = 1 := rfl; omega) hlo1).mono ?_
      rintro e w2 ⟨rfl, hS2⟩
      have HS2 := Lib.hid hS2
      clear hS2
      go_wp2_with fail
      go_ret
      refine ⟨rfl, ?_⟩
      rw [hP.out, putName_root]
      exact Stepped.step HT.out HG.out HS2.out
    · have hsz := right_size hr1
      have hmx : n1.size ≤ maxLen := by unfold maxLen; omega
      have hrun := look_run HSays.out HM.out hmx
      have hpar := fun W => parent_any n1 W
      rw [par_yes hr1 hroot] at hpar
      have t0 := list_ne (l := [0]) hroot
      have hps := par_size hr1 hroot
      have hprr := par_right hr1 hroot
      have hhead : n1.extract 0 (n1.size - (par n1).size) = head n1 := rfl
      have hhs := head_size n1
      cases hlk : look K1 n1 with
      | some q =>
        rw [hlk] at hrun
        simp only [Option.getD_some, Option.isSome_some] at hrun
        have hq := hS1 _ _ hlk
        cases may with
        | true =>
          have hput : putName n1 true (bs1, K1) = (bs1 ++ beB 2 (49152 + q), K1) := by rw [putName_step true (bs1, K1) hr1 hroot]; simp only [hlk, if_true]
          obtain ⟨x, hxq⟩ : ∃ x, x = 49152 + q := ⟨_, rfl⟩
          rw [← hxq] at hput
          have hx : x < 65536 := by omega
          have e1 : (49152 : Int) + (q : Int) = (x : Int) := by omega
          have HE := Lib.hid e1
          have HP := Lib.hid hput
          clear hput e1 hxq
          go_wp2_with fail
          rw [HE.out]
          obtain ⟨W2, hW2⟩ : ∃ W2, W2 = (wr.alloc (.cells #[.int .u64 (x : Int)] 53)).alloc (.cells #[.int .i64 2] 3) := ⟨_, rfl⟩
          have hw0 : Below wr.heap.size wr W2 := by rw [hW2]; exact ((Below.refl _ wr).alloc (Nat.le_refl _) _).alloc (by simp) _
          have d1 : W2.cell? ⟨wr.heap.size, 0, none⟩ = some (.int .u64 (x : Int)) := by
            rw [hW2, World.cell?_alloc_lt _ _ _ (by simp)]; exact Lib.cell_of_heap (heap_alloc_new wr _) 0
          have d2 : W2.cell? ⟨wr.heap.size + 1, 0, none⟩ = some (.int .i64 2) := by
            have := heap_alloc_new (wr.alloc (.cells #[.int .u64 (x : Int)] 53)) (.cells #[.int .i64 2] 3)
            rw [← hW2] at this
            simp only [World.size_alloc] at this
            exact Lib.cell_of_heap this 0
          rw [← hW2]
          have hjc := join_call x hx wr.heap.size (wr.heap.size + 1) W2 d1 d2
          have hsl : (arr (beB 2 x)).size = 2 := by rw [arr_size, beB_len]
          have hst : (arr (beB 2 x)).data.toList = beB 2 x := arr_list _
          generalize arr (beB 2 x) = str at hjc hsl hst
          have HST := Lib.hid hst
          have HSL := Lib.hid hsl
          clear hst hsl d1 d2 hW2
          refine hjc.mono ?_
          rintro e w2 ⟨rfl, hb2⟩
          have hw2 : Below wr.heap.size wr w2 := hw0.trans (hb2.mono hw0.size)
          have hl2 : lo ≤ w2.heap.size := Nat.le_trans hlo1 hw2.size
          have hp2 : Pk lo p mb g1 bs1 K1 w2 := HPK.out.below hw2
          have HP2 := Lib.hid hp2
          have HW2 := Lib.hid hw2
          clear hp2 hb2 hw2 hw0 hjc
          go_wp2_with fail
          refine (Raw lo p mb g1 K1 bs1 str w2 HP2.out (by rw [HSL.out]; omega) hl2).mono ?_
          rintro e w3 ⟨rfl, hS3⟩
          have HS3 := Lib.hid hS3
          clear hS3
          go_wp2_with fail
          go_ret
          refine ⟨rfl, ?_⟩
          rw [hP.out, HP.out]
          have h3 := HS3.out
          rw [HST.out] at h3
          exact Stepped.step HT.out HG.out (Stepped.behind HW2.out h3)
        | false =>
          go_wp2_with fail
          refine (hpar _).mono ?_
          rintro e w2 ⟨rfl, hb2⟩
          go_wp2_with fail
          refine (Raw lo p mb g1 K1 bs1 (head n1) w2 (HPK.out.below hb2) (by omega) (Nat.le_trans hlo1 hb2.size)).mono ?_
          rintro e w3 ⟨rfl, hS3⟩
          have HS3 := Lib.hid hS3
          clear hS3
          go_wp2_with fail
          refine ⟨⟨par n1, bs1 ++ (head n1).data.toList, K1, rfl, hprr, Lib.hid ?_, Lib.hid (Stepped.step HT.out HG.out (Stepped.behind hb2 HS3.out)), hS1, ?_, by omega, Nat.le_trans hlo1 (Nat.le_trans hb2.size HS3.out.touch.size)⟩, hps⟩
          · rw [hP.out, putName_step false (bs1, K1) hr1 hroot]; simp only [hlk, Bool.false_eq_true, if_false]
          · rw [List.length_append, size_list]; omega
      | none =>
        rw [hlk] at hrun
        simp only [Option.getD_none, Option.isSome_none] at hrun
        by_cases hb16 : bs1.length < 16384
        · have hkey : keyOf Try.prog 9 (.string n1) = some (klit n1) := keyOf_string_mk Try.underlying9 hmx
          have hdr : Below wr.heap.size wr wr.drew := (Below.refl _ wr).drew
          obtain ⟨w2, hrun2, hown2, hg2⟩ := HM.out.drew.update stringLaw Try.underlying47 (by unfold maxLen; omega) hkey (plainElem_int Try.underlying3 (intLit bs1.length hb16))
          have hst2 := Stepped.behind hdr (stored (HPK.out.below hdr) (HSays.out.put n1 bs1.length) hown2 hg2)
          have hput : putName n1 may (bs1, K1) = putName (par n1) may (bs1 ++ (head n1).data.toList, (n1, bs1.length) :: K1) := by rw [putName_step may (bs1, K1) hr1 hroot]; simp only [hlk, if_pos hb16]
          have HP := Lib.hid hput
          have HST := Lib.hid hst2
          have t1 : decide ((bs1.length : Int) < 16384) = true := decide_eq_true (by omega)
          clear hput hst2 hown2 hg2
          go_wp2_with fail
          go_still_tail 10, (by kernel_rfl)
          change wpList _ _ _ _ _ wr.drew
          have HRUN := Lib.hid hrun
          clear hrun
          generalize wr.drew = wd at hrun2
          go_wp2_with fail
          refine (hpar _).mono ?_
          rintro e w3 ⟨rfl, hb3⟩
          clear hrun2 wd
          have HB3 := Lib.hid hb3
          clear hb3
          obtain ⟨⟨g2, hpk2, hg2⟩, ht2⟩ := HST.out
          have HPK3 := Lib.hid (hpk2.below HB3.out)
          have HG2 := Lib.hid hg2
          have HT2 := Lib.hid ht2
          clear hpk2 hg2 ht2
          have hl3 : lo ≤ w3.heap.size := Nat.le_trans hlo1 (Nat.le_trans HT2.out.size HB3.out.size)
          go_wp2_with fail
          refine (Raw lo p mb g2 ((n1, bs1.length) :: K1) bs1 (head n1) w3 HPK3.out (by omega) hl3).mono ?_
          rintro e w4 ⟨rfl, hS4⟩
          have HS4 := Lib.hid hS4
          clear hS4
          go_wp2_with fail
          refine ⟨⟨par n1, bs1 ++ (head n1).data.toList, (n1, bs1.length) :: K1, rfl, hprr, Lib.hid (hP.out.trans HP.out), Lib.hid (Stepped.step HT.out HG.out (Stepped.step HT2.out HG2.out (Stepped.behind HB3.out HS4.out))), hS1.put hb16, ?_, ?_, Nat.le_trans hl3 HS4.out.touch.size⟩, hps⟩
          · rw [List.length_append, size_list]; omega
          · rw [List.length_cons]; omega
        · have hput : putName n1 may (bs1, K1) = putName (par n1) may (bs1 ++ (head n1).data.toList, K1) := by rw [putName_step may (bs1, K1) hr1 hroot]; simp only [hlk, if_neg hb16]
          have HP := Lib.hid hput
          have t1 : decide ((bs1.length : Int) < 16384) = false := decide_eq_false (by omega)
          clear hput
          go_wp2_with fail
          refine (hpar _).mono ?_
          rintro e w3 ⟨rfl, hb3⟩
          have HB3 := Lib.hid hb3
          clear hb3
          have HPK3 := Lib.hid (HPK.out.below HB3.out)
          have hl3 : lo ≤ w3.heap.size := Nat.le_trans hlo1 HB3.out.size
          go_wp2_with fail
          refine (Raw lo p mb g1 K1 bs1 (head n1) w3 HPK3.out (by omega) hl3).mono ?_
          rintro e w4 ⟨rfl, hS4⟩
          have HS4 := Lib.hid hS4
          clear hS4
          go_wp2_with fail
          refine ⟨⟨par n1, bs1 ++ (head n1).data.toList, K1, rfl, hprr, Lib.hid (hP.out.trans HP.out), Lib.hid (Stepped.step HT.out HG.out (Stepped.behind HB3.out HS4.out)), hS1, ?_, by omega, Nat.le_trans hl3 HS4.out.touch.size⟩, hps⟩
          · rw [List.length_append, size_list]; omega
/-- What is no name is put nowhere. -/
theorem Name_no (p : Nat) (n : ByteArray) (may : Bool) (w : World) (hr : rightB n = false) :
    Calls Try.prog 12 #[.pointer (some ⟨p, 0, none⟩), .string n, .bool may] w fun e w' => e = .returned (.int .i64 2) ∧ Below w.heap.size w w' := by
  have hq := fun W => right_any n W
  rw [hr] at hq
  go_enter Try.func12, Try.ntmps12
  go_wp2_with fail
  refine (hq _).mono ?_
  rintro e w1 ⟨rfl, hb1⟩
  go_wp2_with fail
  go_ret
  exact ⟨rfl, hb1⟩
end Go.Proofs.Ytekbecpcbfhdmaa.Pack
/- awake of the pack laws. -/
namespace Go.Proofs.Ytekbecpcbfhdmaa.Given
open Go.RowKit Go.Proofs.YtekbecpcbfhdmaaW.PrintWords Go.Proofs.Ytekbecpcbfhdmaa.Oct Go.Proofs.Ytekbecpcbfhdmaa.Name Go.Proofs.Ytekbecpcbfhdmaa.Pack
set_option linter.unusedVariables false
def one : ByteArray := ⟨#[1, 97, 0]⟩
theorem one_right : rightB one = true := by decide +kernel
theorem one_put : putName one true ([], []) = ([1, 97, 0], [(one, 0)]) := by decide +kernel
set_option maxHeartbeats 1000000 in
set_option maxRecDepth 100000 in
theorem awake_any (w : World) : Calls Try.prog 8 #[] w fun e w' => e = .returned (.bool true) ∧ Below w.heap.size w w' := by
  go_enter Try.func8, Try.ntmps8
  go_wp2_with fail
  refine (New w.heap.size w (Nat.le_refl _)).mono ?_
  rintro e w1 ⟨p, mb, rfl, hpk, hp, hm, hb1⟩
  have HPK := Lib.hid hpk
  have HB1 := Lib.hid hb1
  clear hpk hb1
  go_wp2_with fail
  have hn := Name w.heap.size p mb none [] [] one true w1 HPK.out one_right small_nil (by decide +kernel) (by decide +kernel) HB1.out.size
  rw [one_put] at hn
  refine hn.mono ?_
  rintro e w2 ⟨rfl, hS2⟩
  have hB2 : Below w.heap.size w1 w2 := hS2.touch.below HB1.out.size fun k hk => HPK.out.own_lo k hk
  obtain ⟨⟨g2, hp2, _⟩, _⟩ := hS2
  have HP2 := Lib.hid hp2
  have HB2 := Lib.hid hB2
  clear hp2 hB2 hn
  go_wp2_with fail
  refine (Len w.heap.size p mb g2 _ _ w2 HP2.out).mono ?_
  rintro e w3 ⟨rfl, rfl⟩
  go_wp2_with fail
  refine (Bytes w.heap.size p mb g2 _ _ w2 HP2.out (by decide)).mono ?_
  rintro e w3 ⟨rfl, rfl⟩
  have e1 : arr [1, 97, 0] = ⟨#[1, 97, 0]⟩ := rfl
  rw [e1]
  go_wp2_with fail
  go_ret
  exact ⟨rfl, HB1.out.trans HB2.out⟩
def beadrolllaw09_awake.f : Option Bool := some true
theorem beadrolllaw09_awake.calls (r : Bool) (w : World) (h : beadrolllaw09_awake.f = some r) : Calls Try.prog 8 #[] w fun e w' => e = .returned (.bool r) ∧ Below w.heap.size w w' := by
  obtain rfl := Option.some.inj h
  exact awake_any w
end Go.Proofs.Ytekbecpcbfhdmaa.Given
-- Written by this session's program gprint.py out of the translation; Lean checks it.
namespace Go.Proofs.Ytekbecpcbfhdmaa.PPak
open Go.RowKit Go.Proofs.YtekbecpcbfhdmaaW.PrintWords Go.Proofs.YtekbecpcbfhdmaaW.PrintLast Go.Proofs.YtekbecpcbfhdmaaW.PrintMore Go.Proofs.Ytekbecpcbfhdmaa.Given
attribute [local go_sem] max2_int min2_int max_two min_two max_three min_three max_four min_four   -- for this text's walks alone
set_option linter.unusedVariables false
set_option linter.unusedSimpArgs false



def errW : Option Int → Value
  | none => .nilIface
  | some c => .iface 0 (.int .i64 c)
theorem errW_none : errW none = .nilIface := rfl
theorem errW_some (c : Int) : errW (some c) = .iface 0 (.int .i64 c) := rfl

theorem info3 : (Try.prog.info? 3).map (fun i => (i.zero, i.size, i.bytes)) = some (some (.int .i64 0), 1, 8) := by kernel_rfl
theorem info4 : (Try.prog.info? 4).map (fun i => (i.zero, i.size, i.bytes)) = some (some (.bool false), 1, 1) := by kernel_rfl
theorem info5 : (Try.prog.info? 5).map (fun i => (i.zero, i.size, i.bytes)) = some (some (.int .u8 0), 1, 1) := by kernel_rfl
theorem info9 : (Try.prog.info? 9).map (fun i => (i.zero, i.size, i.bytes)) = some (some (.string ⟨#[]⟩), 1, 16) := by kernel_rfl
theorem info62 : (Try.prog.info? 62).map (fun i => (i.zero, i.size, i.bytes)) = some (some (.agg #[(.string ⟨#[]⟩), (.int .i64 0)]), 2, 24) := by kernel_rfl
-- the values' own types
/-! #### struct type 31 -/
structure S31 where
  f0 : Bool
  f1 : ByteArray
  f2 : Bool
def z31 : S31 := ⟨false, (⟨#[]⟩ : ByteArray), false⟩
def k31 : Kd S31 := Kd.iso (Kd.pair Kd.bool (Kd.pair Kd.string Kd.bool)) (fun x : S31 => (x.f0, x.f1, x.f2))
theorem k31_open {w : World} {x : S31} {cs : List Value} (h : k31.K w x cs) : cs = [.bool x.f0, .string x.f1, .bool x.f2] := by
  obtain ⟨_, _, rfl, rfl, ⟨_, _, rfl, rfl, rfl⟩⟩ := h
  exact rfl
theorem k31_openM {w : World} {base : Nat} {ok : Nat → Prop} {x : S31} {cs : List Value} (h : k31.M w base ok x cs) : cs = [.bool x.f0, .string x.f1, .bool x.f2] := by
  obtain ⟨_, _, rfl, rfl, ⟨_, _, rfl, rfl, rfl⟩⟩ := h
  exact rfl
theorem k31_mk (w : World) (x : S31)  : k31.K w x [.bool x.f0, .string x.f1, .bool x.f2] := ⟨[.bool x.f0], [.string x.f1, .bool x.f2], rfl, rfl, ⟨[.string x.f1], [.bool x.f2], rfl, rfl, rfl⟩⟩
theorem k31_mkM (w : World) (base : Nat) (ok : Nat → Prop) (x : S31)  : k31.M w base ok x [.bool x.f0, .string x.f1, .bool x.f2] := ⟨[.bool x.f0], [.string x.f1, .bool x.f2], rfl, rfl, ⟨[.string x.f1], [.bool x.f2], rfl, rfl, rfl⟩⟩
theorem k31_mkF (W : World) (ok : Nat → Prop) (x : S31) : Kd.FK k31 W ok x [.bool x.f0, .string x.f1, .bool x.f2] := fun W2 _ => k31_mk W2 x
def rd_T31 (xs : List S31) (i : Int) : S31 := xs.getD i.toNat z31
theorem at_T31 {w : World} {A : Option Addr} {n : Nat} {xs : List S31} (h : Kd.C k31 w A n xs) (i : Int) (h0 : 0 ≤ i) (h1 : i < n) : ∃ ad , A = some ad ∧ w.cell? (ad.add (i.toNat * 3)) = some (.bool (rd_T31 xs i).f0) ∧ w.cell? ⟨(ad.add (i.toNat * 3)).block, (ad.add (i.toNat * 3)).off + 1, none⟩ = some (.string (rd_T31 xs i).f1) ∧ w.cell? ⟨(ad.add (i.toNat * 3)).block, (ad.add (i.toNat * 3)).off + 2, none⟩ = some (.bool (rd_T31 xs i).f2) := by
  obtain ⟨ad, c, e, _, hK, hc0⟩ := Kd.C_get h z31 i h0 h1
  have hc : ∀ j u, c[j]? = some u → w.cell? (ad.add (i.toNat * 3 + j)) = some u := hc0
  obtain rfl := k31_open hK
  exact ⟨ad, e, hc 0 _ rfl, by rw [← add_field _ _ 1 (by omega)]; exact hc 1 _ rfl, by rw [← add_field _ _ 2 (by omega)]; exact hc 2 _ rfl⟩

/-! #### struct type 62 -/
structure S62 where
  f0 : ByteArray
  f1 : Int
def z62 : S62 := ⟨(⟨#[]⟩ : ByteArray), (0 : Int)⟩
def k62 : Kd S62 := Kd.iso (Kd.pair Kd.string (Kd.int .i64)) (fun x : S62 => (x.f0, x.f1))
theorem k62_open {w : World} {x : S62} {cs : List Value} (h : k62.K w x cs) : cs = [.string x.f0, .int .i64 x.f1] := by
  obtain ⟨_, _, rfl, rfl, rfl⟩ := h
  exact rfl
theorem k62_openM {w : World} {base : Nat} {ok : Nat → Prop} {x : S62} {cs : List Value} (h : k62.M w base ok x cs) : cs = [.string x.f0, .int .i64 x.f1] := by
  obtain ⟨_, _, rfl, rfl, rfl⟩ := h
  exact rfl
theorem k62_mk (w : World) (x : S62)  : k62.K w x [.string x.f0, .int .i64 x.f1] := ⟨[.string x.f0], [.int .i64 x.f1], rfl, rfl, rfl⟩
theorem k62_mkM (w : World) (base : Nat) (ok : Nat → Prop) (x : S62)  : k62.M w base ok x [.string x.f0, .int .i64 x.f1] := ⟨[.string x.f0], [.int .i64 x.f1], rfl, rfl, rfl⟩
theorem k62_mkF (W : World) (ok : Nat → Prop) (x : S62) : Kd.FK k62 W ok x [.string x.f0, .int .i64 x.f1] := fun W2 _ => k62_mk W2 x
def rd_T62 (xs : List S62) (i : Int) : S62 := xs.getD i.toNat z62
theorem at_T62 {w : World} {A : Option Addr} {n : Nat} {xs : List S62} (h : Kd.C k62 w A n xs) (i : Int) (h0 : 0 ≤ i) (h1 : i < n) : ∃ ad , A = some ad ∧ w.cell? (ad.add (i.toNat * 2)) = some (.string (rd_T62 xs i).f0) ∧ w.cell? ⟨(ad.add (i.toNat * 2)).block, (ad.add (i.toNat * 2)).off + 1, none⟩ = some (.int .i64 (rd_T62 xs i).f1) := by
  obtain ⟨ad, c, e, _, hK, hc0⟩ := Kd.C_get h z62 i h0 h1
  have hc : ∀ j u, c[j]? = some u → w.cell? (ad.add (i.toNat * 2 + j)) = some u := hc0
  obtain rfl := k62_open hK
  exact ⟨ad, e, hc 0 _ rfl, by rw [← add_field _ _ 1 (by omega)]; exact hc 1 _ rfl⟩

end Go.Proofs.Ytekbecpcbfhdmaa.PPak
