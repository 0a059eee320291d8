/- The contract of Split's closure: number by number, till a width finds too few bytes. No condition but sizes that a string and a slice can have. -/
import Derived.Test.YtekbecpcbfhdmaaOctCatch
import Derived.Deep.RegionLaw
import Derived.Deep.RegionWith
import Derived.Deep.DrawnRows
import Derived.Test.YtekbecpcbfhdmaaWApart
import Derived.Test.YtekbecpcbfhdmaaWKept
import Derived.Test.YtekbecpcbfhdmaaWMore
import Derived.Test.YtekbecpcbfhdmaaWLast
namespace Go.Proofs.Ytekbecpcbfhdmaa.Oct
open Go.RowKit Go.Proofs.YtekbecpcbfhdmaaW.PrintWords Go.Proofs.YtekbecpcbfhdmaaW.PrintLast Go.Proofs.Ytekbecpcbfhdmaa.UpdWords

/-- The numbers of such widths that bytes begin with, behind those that were read, and what is left. -/
def splitL : ByteArray → List Int → List Int → Option (List Int × ByteArray)
  | b, [], acc => some (acc, b)
  | b, n :: ws, acc => if n.toNat ≤ b.size then splitL (b.extract n.toNat b.size) ws (acc ++ [(beN (b.data.toList.take n.toNat) : Int)]) else none

theorem R_upd {S ok : Nat → Prop} {α : Type} {d : Kd α} {e base : Nat} {W W' : World} {v : Value} {xs : List α} (h : d.R e W base ok v xs) (hu : Upd S W W') (hs : ∀ k, ok k → ¬ S k) : d.R e W' base ok v xs :=
  Kd.R_step h (fun k ho hlt => hu.block k hlt (hs k ho))
theorem info_u64 : (Try.prog.info? 53).map (fun i => (i.zero, i.size, i.bytes)) = some (some (.int .u64 0), 1, 8) := by kernel_rfl

/-- What is held at the head of a round of Split's closure. -/
structure Round (B N g go : Nat) (w0 wr : World) (b : ByteArray) (v : Value) (xs : List Int) : Prop where
  rd : Rd wr g b
  out : wr.heap[go]? = some (.cells #[v] 54 (0, 0))
  own : (Kd.int .u64).R 53 wr B (fun k => k ≠ g ∧ k ≠ go ∧ N ≤ k) v xs
  below : Below B w0 wr

/-- How Split's closure ends. -/
def SplitEnd (B g go : Nat) (w0 w : World) (T : Option (List Int × ByteArray)) (e : Ending) (w' : World) : Prop :=
  Upd (fun k => k = g ∨ k = go) w w' ∧ match T with
    | some (xs, r) => e = .returned (.tuple #[]) ∧ ∃ v', Round B w.heap.size g go w0 w' r v' xs
    | none => e = .panicked short

theorem round_next {B N g go : Nat} {w0 w2 w3 : World} {b2 : ByteArray} {v1 : Value} {ys : List Int} {A : Option Addr} {m c : Nat} (hb2 : Rd w2 g b2) (ho2 : w2.heap[go]? = some (.cells #[v1] 54 (0, 0)))
    (own3 : (Kd.int .u64).R 53 w3 B (fun k => k ≠ g ∧ k ≠ go ∧ N ≤ k) (.slice A m c) ys) (hb3 : Below B w0 w3) (hg3 : w2.grownBy w3 v1.ownBlock) (hv1 : ∀ k, v1.ownBlock = some k → k ≠ g ∧ k ≠ go ∧ N ≤ k) (hgo : g ≠ go) (hB : B ≤ go) :
    Round B N g go w0 (w3.setCell ⟨go, 0, none⟩ (.slice A m c)) b2 (.slice A m c) ys := by
  refine ⟨blk_far (blk_grown hb2 hg3 (fun e => (hv1 g e.symm).1 rfl)) (by show g ≠ go; exact hgo) _, blk_set (blk_grown ho2 hg3 (fun e => (hv1 go e.symm).2.1 rfl)) 0 _, R_upd own3 ((Upd.refl (· = go) w3).set go 0 _ (.inl rfl)) (fun k h e => h.2.1 e), ?_⟩
  exact Below.setCell hb3 (by show B ≤ go; exact hB) _
theorem upd_next {g go : Nat} {w wr w2 w3 : World} {v1 x : Value} (h : Upd (fun k => k = g ∨ k = go) w wr) (h2 : Upd (· = g) wr w2) (hg3 : w2.grownBy w3 v1.ownBlock) (hv1 : ∀ k, v1.ownBlock = some k → w.heap.size ≤ k) : Upd (fun k => k = g ∨ k = go) w (w3.setCell ⟨go, 0, none⟩ x) :=
  ((h.trans h2 (fun _ e => .inl (.inl e))).grown hg3 (fun k e => .inr (hv1 k e))).set go 0 _ (.inl (.inr rfl))
theorem split_next {b1 : ByteArray} {n : Int} {ws xs : List Int} {T : Option (List Int × ByteArray)} (h : splitL b1 (n :: ws) xs = T) (hn : n.toNat ≤ b1.size) : splitL (b1.extract n.toNat b1.size) ws (xs ++ [(beN (b1.data.toList.take n.toNat) : Int)]) = T := by
  rw [splitL, if_pos hn] at h; exact h
theorem split_short_end {B g go : Nat} {w0 w w' : World} {T : Option (List Int × ByteArray)} (hT : T = none) (h : Upd (fun k => k = g ∨ k = go) w w') : SplitEnd B g go w0 w T (.panicked short) w' := by
  subst hT; exact ⟨h, rfl⟩
theorem split_ok_end {B g go : Nat} {w0 w w' : World} {T : Option (List Int × ByteArray)} {b1 : ByteArray} {xs : List Int} {v : Value} (hT : splitL b1 [] xs = T) (hr : Round B w.heap.size g go w0 w' b1 v xs) (h : Upd (fun k => k = g ∨ k = go) w w') : SplitEnd B g go w0 w T (.returned (.tuple #[])) w' := by
  subst hT; exact ⟨h, rfl, v, hr⟩
/-- A way that has ended by a panic, told to the walk of a region as one that goes on over no operation. -/
theorem closed_way {p : Prop} (h : p) (w : World) (_ : wpAny Try.prog .any #[] (fun _ _ _ => True) 0 #[] { tmps := #[], defers := [] } w) : p := h
theorem drop_le (b : ByteArray) (n : Nat) (h : b.size ≤ maxLen) : (b.extract n b.size).size ≤ maxLen := by rw [drop_size]; omega

attribute [local go_sem ↓] Go.wp_at_zero Go.wp_at_succ
set_option maxHeartbeats 1600000 in
set_option maxRecDepth 100000 in
theorem split1 (B g gw go : Nat) (b : ByteArray) (A : Option Addr) (c : Nat) (l : List Int) (v : Value) (w0 w : World) (T : Option (List Int × ByteArray)) (hT : splitL b l [] = T)
    (hr : Round B w.heap.size g go w0 w b v []) (hgw : w.cell? ⟨gw, 0, none⟩ = some (.slice A l.length c)) (hgo : g ≠ go) (hB : B ≤ g) (hB2 : B ≤ go)
    (hl : ∀ W, Upd (fun k => k = g ∨ k = go) w W → (Kd.int .i64).C W A l.length l) (hw : ∀ n ∈ l, 0 ≤ n ∧ n ≤ 8) (hlen : l.length < 17592186044416) (hs : b.size ≤ maxLen) :
    Calls Try.prog 37 #[.pointer (some ⟨g, 0, none⟩), .pointer (some ⟨gw, 0, none⟩), .pointer (some ⟨go, 0, none⟩)] w fun e w' =>
      SplitEnd B g go w0 w T e w' := by
  have HT := Lib.hid hT; clear hT
  have HR := Lib.hid hr; clear hr
  have HL := Lib.hid hl; clear hl
  have HW := Lib.hid hw; clear hw
  go_enter Try.func37, Try.ntmps37
  go_wp2_with fail
  go_loopw [8] (fun i wr => ∃ (k : Nat) (b1 : ByteArray) (v1 : Value) (xs : List Int), k ≤ l.length ∧ i = .int .i64 k ∧ Hid (xs.length = k ∧ b1.size ≤ maxLen ∧ splitL b1 (l.drop k) xs = T) ∧ Hid (Round B w.heap.size g go w0 wr b1 v1 xs) ∧ Hid (Upd (fun k => k = g ∨ k = go) w wr)) (fun i _ => l.length - (intOf i).toNat)
  case atStart => exact ⟨0, b, v, [], Nat.zero_le _, rfl, Lib.hid ⟨rfl, hs, HT.out⟩, HR, Lib.hid (Upd.refl _ _)⟩
  case round =>
    obtain ⟨k, b1, v1, xs, hk, rfl, H1, H2, H3⟩ := hrel
    by_cases hlt : k < l.length
    · obtain ⟨ad, rfl, hc0⟩ := Kd.at_int (HL.out _ H3.out) (k : Int) (by omega) (by omega)
      have hr : rd l (k : Int) = l[k] := by simp [rd, hlt]
      rw [hr] at hc0
      have hc : wr.cell? (ad.add k) = some (.int .i64 l[k]) := hc0
      clear hc0 hr
      have hn := HW.out l[k] (List.getElem_mem hlt)
      obtain ⟨n0, n8⟩ := hn
      have c1 : wr.cell? ⟨go, 0, none⟩ = some v1 := blk_cell H2.out.out 0
      have f1 := blk_frozen H2.out.out 0
      have HD := Lib.hid (List.drop_eq_getElem_cons hlt)
      generalize l[k] = n at hc n0 n8 HD
      by_cases hfit : n ≤ b1.size
      · go_wp2_with fail
        have hbd : Rd wr.drew g b1 := H2.out.rd
        have hod : wr.drew.heap[go]? = some (.cells #[v1] 54 (0, 0)) := H2.out.out
        have hwd : (Kd.int .u64).R 53 wr.drew B (fun k => k ≠ g ∧ k ≠ go ∧ w.heap.size ≤ k) v1 xs := Kd.R_drew H2.out.own
        have hld : Below B w0 wr.drew := below_drew H2.out.below
        have hxl := H1.out.1
        have hsz : w.heap.size ≤ wr.drew.heap.size := H3.out.size
        have HS := Lib.hid hsz; clear hsz
        have HB := Lib.hid hbd; clear hbd
        have HO := Lib.hid hod; clear hod
        have HV := Lib.hid hwd; clear hwd
        have HE := Lib.hid hld; clear hld
        have HX := Lib.hid hxl; clear hxl
        go_region_law (first | (refine goes_ Try.func38 (by kernel_rfl) rfl #[.pointer (some ⟨g, 0, none⟩), .int .i64 n] (by rfl) (by rfl) (by rfl) (by (try simp only [List.map_toArray, List.map_cons, List.map_nil]); first | done | rfl) ?_; refine (number_ok g b1 n _ HB.out n0 n8 hfit H1.out.2.1).mono ?_; rintro e w2 ⟨rfl, hb2, hu2⟩; refine ⟨_, rfl, ?_⟩; have c2 : w2.cell? ⟨go, 0, none⟩ = some v1 := blk_cell (hu2.heap HO.out (by omega)) 0; have c4 : (w2.alloc (.cells #[.int .u64 (beN (b1.data.toList.take n.toNat) : Int)] 53)).cell? ⟨go, 0, none⟩ = some v1 := blk_cell (alloc_old (hu2.heap HO.out (by omega))) 0) | (refine Kd.R_append_step (Kd.int .u64) (w0 := w0) (W := w2) B (by simp [Region.wanted]) (.tmp 12) (.tmp 16) 54 53 (.int .u64 0) 8 (by rfl) Try.underlying54 info_u64 (by rfl) (by decide) (by omega) v1 xs (beN (b1.data.toList.take n.toNat) : Int) [.int .u64 (beN (b1.data.toList.take n.toNat) : Int)] (fun k => k ≠ g ∧ k ≠ go ∧ w.heap.size ≤ k) (fun _ => False) (by rfl) (by rfl) (by rfl) (fun _ h => h.elim) (fun k hk => ⟨by have := blk_lt hb2; omega, by have := blk_lt (hu2.heap HO.out (by omega)); omega, Nat.le_trans HS.out (Nat.le_trans hu2.size hk)⟩) (R_upd HV.out hu2 (fun k h => h.1)) (hu2.below HE.out (Nat.le_trans hB (Nat.le_of_lt (blk_lt HB.out))) (fun i h => by omega)) (Nat.le_trans hB (Nat.le_of_lt (blk_lt hb2))) (by have := HX.out; omega) ?_; intro v2 w3 ho3 hb3 hg3 hat3; obtain ⟨A2, c2', rfl⟩ := Kd.R_slice ho3; rw [List.length_append, List.length_singleton] at ho3; have f3 : w3.frozen? ⟨go, 0, none⟩ = false := blk_frozen (blk_grown (hu2.heap HO.out (by omega)) hg3 (fun e => (HV.out.1 go e.symm).2.1 rfl)) 0; have c3 : w3.cell? ⟨go, 0, none⟩ = some v1 := blk_cell (blk_grown (hu2.heap HO.out (by omega)) hg3 (fun e => (HV.out.1 go e.symm).2.1 rfl)) 0; have HO3 := Lib.hid ho3; clear ho3; have HB3 := Lib.hid hb3; clear hb3; have HG3 := Lib.hid hg3))
        all_goals
          go_wp2_with fail
          exact ⟨⟨k + 1, b1.extract n.toNat b1.size, _, xs ++ [(beN (b1.data.toList.take n.toNat) : Int)], by omega, by go_num, Lib.hid ⟨by rw [List.length_append, HX.out]; rfl, drop_le _ _ H1.out.2.1, split_next (by rw [← HD.out]; exact H1.out.2.2) (by omega)⟩, Lib.hid (round_next hb2 (hu2.heap HO.out (by omega)) HO3.out HB3.out HG3.out HV.out.1 hgo hB2), Lib.hid (upd_next (H3.out.drew) hu2 HG3.out (fun k e => (HV.out.1 k e).2.2))⟩, by simp [intOf]; omega⟩
      · have hbd : Rd wr.drew g b1 := H2.out.rd
        have HB := Lib.hid hbd; clear hbd
        have HF : Hid (T = none) := Lib.hid (by rw [← H1.out.2.2, HD.out, splitL, if_neg (by omega)])
        have H3d : Hid (Upd (fun k => k = g ∨ k = go) w wr.drew) := Lib.hid H3.out.drew
        go_wp2_with fail
        go_region_with (go_at_call 38; refine (number_short g b1 n _ HB.out (by omega)).mono ?_; rintro e w2 ⟨rfl, hu2⟩; refine closed_way ⟨rfl, split_short_end HF.out (H3d.out.trans hu2 (fun _ e => .inl (.inl e)))⟩ w2 ?_)
        all_goals trivial
    · obtain rfl : k = l.length := by omega
      go_wp2_with fail
      go_end0
      exact split_ok_end (by have := H1.out.2.2; rw [List.drop_of_length_le (Nat.le_refl _)] at this; exact this) H2.out H3.out
end Go.Proofs.Ytekbecpcbfhdmaa.Oct
