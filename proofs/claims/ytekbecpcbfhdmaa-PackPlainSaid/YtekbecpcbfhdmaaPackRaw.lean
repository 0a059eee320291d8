/- The packer's small methods: New, Raw, Len, Bytes. -/
import Derived.Test.YtekbecpcbfhdmaaPackState
import Derived.Test.YtekbecpcbfhdmaaBytesWords
import Derived.Test.YtekbecpcbfhdmaaOctBytes
namespace Go.Proofs.Ytekbecpcbfhdmaa.Pack
open Go.RowKit Go.Proofs.YtekbecpcbfhdmaaW.PrintWords Go.Proofs.Ytekbecpcbfhdmaa.BytesWords Go.Proofs.Ytekbecpcbfhdmaa.Oct
set_option linter.unusedVariables false
/-- What has turned of a packer behind a step. -/
structure Stepped (lo p mb : Nat) (g : Option Nat) (bs' : List UInt8) (K' : List (ByteArray × Nat)) (w w' : World) : Prop where
  pk : ∃ g', Pk lo p mb g' bs' K' w' ∧ (∀ k, g' = some k → g = some k ∨ w.heap.size ≤ k)
  touch : Touch (Own p mb g) w w'
theorem Touch.alloc {S : Nat → Prop} (w : World) (o : Obj) : Touch S w (w.alloc o) := Touch.of_grown (World.grownBy_alloc w o none) (by simp)
set_option maxRecDepth 100000 in
theorem Raw (lo p mb : Nat) (g : Option Nat) (K : List (ByteArray × Nat)) (bs : List UInt8) (s : ByteArray) (w : World) (h : Pk lo p mb g bs K w) (hlen : bs.length + s.size ≤ 1000000) (hBw : lo ≤ w.heap.size) :
    Calls Try.prog 11 #[.pointer (some ⟨p, 0, none⟩), .string s] w fun e w' => e = .returned (.tuple #[]) ∧ Stepped lo p mb g (bs ++ s.data.toList) K w w' := by
  have H := Lib.hid h
  obtain ⟨lop, lom, ltp, ⟨v, hv, hb, hown⟩, hmap⟩ := h
  obtain ⟨i0, hi, hz0, hz1, hz2⟩ := info_u8'
  have c0 : w.cell? ⟨p, 0, none⟩ = some v := Lib.cell_of_heap hb 0
  have HB := Lib.hid hb
  have HO := Lib.hid hown
  have HM := Lib.hid hmap
  have HV := Lib.hid hv
  clear hb hown hmap hv
  go_enter Try.func11, Try.ntmps11
  go_wp2_with (at_builtin; refine wpList_append_str _ rfl _ _ 44 9 rfl lo 5 i0 Try.underlying44 Try.underlying9 hi hz0 hz1 hz2 v bs.length (Lib.byteCells bs) rfl HO.out s rfl (by unfold maxLen; omega) (by omega) hBw ?_)
  intro v' w' ho hg hloc
  have hne : v.ownBlock ≠ some p := by
    intro e
    rcases HO.out.2 with ⟨rfl, _⟩ | ⟨g0, cap, cur, rfl, hl, hh, r⟩
    · cases e
    · simp only [Value.ownBlock, Option.some.injEq] at e
      subst e
      rw [HB.out] at hh; simp at hh
  have hb' : w'.heap[p]? = some (.cells #[v, .map (some mb)] 49 (0, 0)) := (hg.block p ltp (fun e => hne e.symm)).trans HB.out
  have hne' : v'.ownBlock ≠ some p := by
    intro e
    rcases ho.2 with ⟨rfl, _⟩ | ⟨g0, cap, cur, rfl, hl, hh, r⟩
    · cases e
    · simp only [Value.ownBlock, Option.some.injEq] at e
      subst e
      rw [hb'] at hh; simp at hh
  obtain ⟨c2, a2, n2, rfl⟩ : ∃ c a n, v' = .slice a n c := by
    rcases ho.2 with ⟨rfl, h0⟩ | ⟨g0, cap, cur, rfl, hl, hh, r⟩
    · exact ⟨0, none, 0, rfl⟩
    · exact ⟨_, _, _, rfl⟩
  have c1 : w'.cell? ⟨p, 0, none⟩ = some v := Lib.cell_of_heap hb' 0
  have f1 : w'.frozen? ⟨p, 0, none⟩ = false := Lib.frozen_of_heap hb' 0
  have HB' := Lib.hid hb'
  have HO' := Lib.hid ho
  have HG := Lib.hid hg
  have HL := Lib.hid hloc
  clear hb' ho hg hloc
  go_wp2_with fail
  go_end0
  have hOwn : ∀ k, Own p mb g k → k < w.heap.size := fun k hk => H.out.own_lt k hk
  have hT : Touch (Own p mb g) w (w'.setCell ⟨p, 0, none⟩ (.slice a2 n2 c2)) := (Touch.of_grown HG.out (fun k hk => .inr (.inr (HV.out ▸ hk)))).trans (Touch.setCell (S := fun k => k = p) rfl (.slice a2 n2 c2)) (fun k _ hk => .inl hk)
  have hmp : mb ≠ p := by
    rintro rfl
    obtain ⟨D, _, es, clock, hm, _⟩ := HM.out
    rw [HB.out] at hm; simp at hm
  have hmv : v.ownBlock ≠ some mb := by
    intro e
    obtain ⟨D, _, es, clock, hm, _⟩ := HM.out
    rcases HO.out.2 with ⟨rfl, _⟩ | ⟨g0, cap, cur, rfl, hl, hh, r⟩
    · cases e
    · simp only [Value.ownBlock, Option.some.injEq] at e
      subst e
      rw [hm] at hh; simp at hh
  refine ⟨rfl, ⟨(Value.slice a2 n2 c2).ownBlock, ⟨lop, lom, Nat.lt_of_lt_of_le ltp hT.size, ⟨_, rfl, ?_, ?_⟩, ?_⟩, ?_⟩, hT⟩
  · have := HB'.out
    simp [World.setCell, Array.getElem?_modify, this]
  · have e : (bs ++ s.data.toList).length = bs.length + s.size := by simp
    rw [e, ← cells_str]
    exact row_touch HO'.out (Touch.setCell (S := fun k => k = p) rfl (.slice a2 n2 c2)) (fun k hk e => hne' (e ▸ hk))
  · refine (HM.out.kept (S := fun k => v.ownBlock = some k) (Touch.of_grown HG.out (fun k hk => hk)) hmv).kept (S := fun k => k = p) (Touch.setCell (S := fun k => k = p) rfl (.slice a2 n2 c2)) hmp
  · intro k hk
    rcases HL.out with e | e
    · exact .inl (HV.out ▸ e ▸ hk)
    · rw [hk] at e; injection e with e; exact .inr (by omega)

set_option maxRecDepth 100000 in
theorem Len (lo p mb : Nat) (g : Option Nat) (K : List (ByteArray × Nat)) (bs : List UInt8) (w : World) (h : Pk lo p mb g bs K w) :
    Calls Try.prog 15 #[.pointer (some ⟨p, 0, none⟩)] w fun e w' => e = .returned (.int .i64 (bs.length : Int)) ∧ w = w' := by
  obtain ⟨lop, lom, ltp, ⟨v, hv, hb, hown⟩, hmap⟩ := h
  obtain ⟨c, a, rfl⟩ : ∃ c a, v = .slice a bs.length c := by
    rcases hown.2 with ⟨rfl, h0⟩ | ⟨g0, cap, cur, rfl, hl, hh, r⟩
    · exact ⟨0, none, by rw [h0]⟩
    · exact ⟨_, _, rfl⟩
  have c0 : w.cell? ⟨p, 0, none⟩ = some (.slice a bs.length c) := Lib.cell_of_heap hb 0
  clear hb hown hmap hv
  go_enter Try.func15, Try.ntmps15
  go_wp2_with fail
  go_ret
  exact ⟨rfl, rfl⟩

theorem cells_nums (bs : List UInt8) : Lib.byteCells bs = (bnums bs).map (Value.int .u8) := by simp [Lib.byteCells, bnums]
theorem bnums_length (l : List UInt8) : (bnums l).length = l.length := by simp [bnums]
set_option maxRecDepth 100000 in
theorem Bytes (lo p mb : Nat) (g : Option Nat) (K : List (ByteArray × Nat)) (bs : List UInt8) (w : World) (h : Pk lo p mb g bs K w) (hl : bs.length ≤ 1000000) :
    Calls Try.prog 16 #[.pointer (some ⟨p, 0, none⟩)] w fun e w' => e = .returned (.string (Oct.arr bs)) ∧ w = w' := by
  obtain ⟨lop, lom, ltp, ⟨v, hv, hb, hown⟩, hmap⟩ := h
  obtain ⟨c, a, hR, rfl⟩ : ∃ c a, ReadsInt w .u8 a bs.length (bnums bs) ∧ v = .slice a bs.length c := by
    rcases hown.2 with ⟨rfl, h0⟩ | ⟨g0, cap, cur, rfl, hlo, hh, r⟩
    · exact ⟨0, none, ⟨bnums_length _, by omega, fun h => by omega⟩, by rw [h0]⟩
    · refine ⟨_, _, ⟨bnums_length _, by omega, fun _ => ⟨_, rfl, fun j hj => ?_⟩⟩, rfl⟩
      refine hown.cells (g := g0) rfl j _ ?_
      rw [cells_nums, List.getElem?_map, List.getElem?_eq_getElem (by rw [bnums_length]; exact hj), List.getD_eq_getElem?_getD, List.getElem?_eq_getElem (by rw [bnums_length]; exact hj)]
      rfl
  have c0 : w.cell? ⟨p, 0, none⟩ = some (.slice a bs.length c) := Lib.cell_of_heap hb 0
  have kc := string_of_reads (P := Try.prog) (c := c) Try.underlying44 Try.underlying5 Try.underlying9 hR
  rw [Oct.str_bnums] at kc
  clear hb hown hmap hv hR
  go_enter Try.func16, Try.ntmps16
  go_wp2_with fail
  go_ret
  exact ⟨rfl, rfl⟩

set_option maxRecDepth 100000 in
theorem New (lo : Nat) (w : World) (hlo : lo ≤ w.heap.size) :
    Calls Try.prog 10 #[] w fun e w' => ∃ p mb, e = .returned (.pointer (some ⟨p, 0, none⟩)) ∧ Pk lo p mb none [] [] w' ∧ w.heap.size ≤ p ∧ w.heap.size ≤ mb ∧ Below w.heap.size w w' := by
  have hmm := @run_makeMap Try.prog
  go_enter Try.func10, Try.ntmps10
  go_wp2_with fail
  go_ret
  have h1 := World.ownsMap_made (H := Unit) w Try.prog 9 (plainElem Try.prog 3)
  have hs : (w.alloc (.map #[] 0)).heap.size = w.heap.size + 1 := by simp
  have h2 := h1.alloc (.cells #[.slice none 0 0, .map (some w.heap.size)] 49)
  refine ⟨w.heap.size + 1, w.heap.size, rfl, ⟨by omega, hlo, by simp, ⟨.slice none 0 0, rfl, ?_, World.ownsRow_nil _ _ _ _⟩, ⟨_, says_nil, h2⟩⟩, by omega, Nat.le_refl _, ((Below.refl _ w).alloc (Nat.le_refl _) _).alloc (by simp) _⟩
  have := heap_alloc_new (w.alloc (.map #[] 0)) (.cells #[.slice none 0 0, .map (some w.heap.size)] 49)
  rw [hs] at this
  exact this
end Go.Proofs.Ytekbecpcbfhdmaa.Pack
