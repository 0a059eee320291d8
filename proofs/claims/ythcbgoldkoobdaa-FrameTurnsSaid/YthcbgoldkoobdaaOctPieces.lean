/- The contracts of Pieces' closure, of reading over it, and of Pieces: ErrArg for what is no piece's width, ErrForm where the bytes aren't pieces, else the pieces; no condition but sizes that a string can have. -/
import Derived.Test.YthcbgoldkoobdaaOctSplit1
import Derived.Test.YthcbgoldkoobdaaOctCut
import Derived.Deep.LoopGhost
import Derived.Laws.Closers25b
namespace Go.Proofs.Ythcbgoldkoobdaa.Oct
open Go.RowKit Go.Proofs.YthcbgoldkoobdaaW.PrintWords Go.Proofs.YthcbgoldkoobdaaW.PrintLast Go.Proofs.Ythcbgoldkoobdaa.UpdWords

theorem cutOf_size {b s r : ByteArray} {m : Nat} (h : cutOf b m = some (s, r)) : r.size + m ≤ b.size ∧ s.size ≤ b.size := by
  unfold cutOf at h
  split at h
  · split at h
    · simp only [Option.some.injEq, Prod.mk.injEq] at h
      obtain ⟨rfl, rfl⟩ := h
      rw [ByteArray.size_extract, ByteArray.size_extract]; omega
    · cases h
  · cases h
/-- The pieces that bytes are, behind those that were cut; as many rounds as there are bytes suffice. -/
def piecesL (m : Nat) : Nat → ByteArray → List ByteArray → Option (List ByteArray)
  | 0, b, acc => if b.size = 0 then some acc else none
  | k + 1, b, acc => if b.size = 0 then some acc else
    match cutOf b m with
    | some (s, r) => piecesL m k r (acc ++ [s])
    | none => none
theorem piecesL_more (m : Nat) (hm : 0 < m) : ∀ (k : Nat) (b : ByteArray) (acc : List ByteArray), b.size ≤ k → piecesL m (k + 1) b acc = piecesL m k b acc := by
  intro k
  induction k with
  | zero => intro b acc h; rw [piecesL, piecesL, if_pos (by omega), if_pos (by omega)]
  | succ k ih =>
    intro b acc h
    rw [piecesL, piecesL]
    split
    · rfl
    · cases hc : cutOf b m with
      | none => rfl
      | some x =>
        obtain ⟨s, r⟩ := x
        have := (cutOf_size hc).1
        exact ih r _ (by omega)
theorem info_str : (Try.prog.info? 9).map (fun i => (i.zero, i.size, i.bytes)) = some (some (.string ⟨#[]⟩), 1, 16) := by kernel_rfl

/-- What is held at the head of a round of Pieces' closure. -/
structure RoundP (B N g go : Nat) (w0 wr : World) (b : ByteArray) (v : Value) (xs : List ByteArray) : Prop where
  rd : Rd wr g b
  out : wr.heap[go]? = some (.cells #[v] 42 (0, 0))
  own : Kd.string.R 9 wr B (fun k => k ≠ g ∧ k ≠ go ∧ N ≤ k) v xs
  below : Below B w0 wr
/-- How Pieces' closure ends. -/
def PiecesEnd (B g go : Nat) (w0 w : World) (T : Option (List ByteArray)) (e : Ending) (w' : World) : Prop :=
  Upd (fun k => k = g ∨ k = go) w w' ∧ match T with
    | some xs => e = .returned (.tuple #[]) ∧ ∃ v' r, RoundP B w.heap.size g go w0 w' r v' xs
    | none => e = .panicked short
theorem roundP_next {B N g go : Nat} {w0 w2 w3 : World} {b2 : ByteArray} {v1 : Value} {ys : List ByteArray} {A : Option Addr} {m c : Nat} (hb2 : Rd w2 g b2) (ho2 : w2.heap[go]? = some (.cells #[v1] 42 (0, 0)))
    (own3 : Kd.string.R 9 w3 B (fun k => k ≠ g ∧ k ≠ go ∧ N ≤ k) (.slice A m c) ys) (hb3 : Below B w0 w3) (hg3 : w2.grownBy w3 v1.ownBlock) (hv1 : ∀ k, v1.ownBlock = some k → k ≠ g ∧ k ≠ go ∧ N ≤ k) (hgo : g ≠ go) (hB : B ≤ go) :
    RoundP B N g go w0 (w3.setCell ⟨go, 0, none⟩ (.slice A m c)) b2 (.slice A m c) ys := by
  refine ⟨blk_far (blk_grown hb2 hg3 (fun e => (hv1 g e.symm).1 rfl)) (by show g ≠ go; exact hgo) _, blk_set (blk_grown ho2 hg3 (fun e => (hv1 go e.symm).2.1 rfl)) 0 _, R_upd own3 ((Upd.refl (· = go) w3).set go 0 _ (.inl rfl)) (fun k h e => h.2.1 e), ?_⟩
  exact Below.setCell hb3 (by show B ≤ go; exact hB) _
theorem piecesP_short_end {B g go : Nat} {w0 w w' : World} {T : Option (List ByteArray)} (hT : T = none) (h : Upd (fun k => k = g ∨ k = go) w w') : PiecesEnd B g go w0 w T (.panicked short) w' := by
  subst hT; exact ⟨h, rfl⟩
theorem piecesP_ok_end {B g go : Nat} {w0 w w' : World} {T : Option (List ByteArray)} {b1 : ByteArray} {xs : List ByteArray} {v : Value} (hT : some xs = T) (hr : RoundP B w.heap.size g go w0 w' b1 v xs) (h : Upd (fun k => k = g ∨ k = go) w w') : PiecesEnd B g go w0 w T (.returned (.tuple #[])) w' := by
  subst hT; exact ⟨h, rfl, v, b1, hr⟩

set_option maxHeartbeats 1600000 in
set_option maxRecDepth 100000 in
theorem pieces1 (B g gn go : Nat) (b : ByteArray) (n : Int) (v : Value) (w0 w : World) (T : Option (List ByteArray)) (hT : piecesL n.toNat b.size b [] = T)
    (hr : RoundP B w.heap.size g go w0 w b v []) (hgn : w.cell? ⟨gn, 0, none⟩ = some (.int .i64 n)) (hgg : gn ≠ g) (hgg2 : gn ≠ go) (hgo : g ≠ go) (hB : B ≤ g) (hB2 : B ≤ go)
    (h1 : 1 ≤ n) (h4 : n ≤ 4) (hs : b.size < 8796093022208) :
    Calls Try.prog 50 #[.pointer (some ⟨g, 0, none⟩), .pointer (some ⟨go, 0, none⟩), .pointer (some ⟨gn, 0, none⟩)] w fun e w' =>
      PiecesEnd B g go w0 w T e w' := by
  have HT := Lib.hid hT; clear hT
  have HR := Lib.hid hr; clear hr
  go_enter Try.func50, Try.ntmps50
  go_wp2_with fail
  go_loopg [] b.size (fun k wr => ∃ (b1 : ByteArray) (v1 : Value) (xs : List ByteArray), Hid (b1.size ≤ k ∧ xs.length + b1.size ≤ b.size ∧ piecesL n.toNat k b1 xs = T) ∧ Hid (RoundP B w.heap.size g go w0 wr b1 v1 xs) ∧ Hid (Upd (fun k => k = g ∨ k = go) w wr))
  case atStart => exact ⟨b, v, [], Lib.hid ⟨Nat.le_refl _, by simp, HT.out⟩, HR, Lib.hid (Upd.refl _ _)⟩
  case round =>
    obtain ⟨b1, v1, xs, H1, H2, H3⟩ := hrel
    have c0 := H2.out.rd.cell
    have c1 : wr.cell? ⟨go, 0, none⟩ = some v1 := blk_cell H2.out.out 0
    have cn : wr.cell? ⟨gn, 0, none⟩ = some (.int .i64 n) := by
      have h := H3.out.block gn (World.block_lt_of_cell? w _ hgn) (fun h => h.elim hgg hgg2)
      have hc : wr.cell? ⟨gn, 0, none⟩ = w.cell? ⟨gn, 0, none⟩ := by simp [World.cell?, h]
      rw [hc]; exact hgn
    by_cases hz : b1.size = 0
    · have he : b1 = ⟨#[]⟩ := by
        have h : b1.data = #[] := Array.eq_empty_of_size_eq_zero hz
        cases b1; simp at h; subst h; rfl
      subst he
      have HF : Hid (some xs = T) := Lib.hid (by
        have := H1.out.2.2
        cases gk with
        | zero => rw [piecesL, if_pos hz] at this; exact this
        | succ k => rw [piecesL, if_pos hz] at this; exact this)
      go_wp2_with fail
      go_end0
      exact piecesP_ok_end HF.out H2.out H3.out
    · have hne : ¬ b1.toList = [] := fun h => hz (by rw [(toList_nil_iff_emptyBytes b1).mp h]; rfl)
      have hne2 : (!b1.toList.isEmpty) = true := by simp [hne]
      obtain ⟨k, rfl⟩ : ∃ k, gk = k + 1 := ⟨gk - 1, by have := H1.out.1; omega⟩
      have hbd : Rd wr.drew g b1 := H2.out.rd
      have hod : wr.drew.heap[go]? = some (.cells #[v1] 42 (0, 0)) := H2.out.out
      have hwd : Kd.string.R 9 wr.drew B (fun k => k ≠ g ∧ k ≠ go ∧ w.heap.size ≤ k) v1 xs := Kd.R_drew H2.out.own
      have hld : Below B w0 wr.drew := below_drew H2.out.below
      have hsz : w.heap.size ≤ wr.drew.heap.size := H3.out.size
      have HS := Lib.hid hsz; clear hsz
      have HB := Lib.hid hbd; clear hbd
      have HO := Lib.hid hod; clear hod
      have HV := Lib.hid hwd; clear hwd
      have HE := Lib.hid hld; clear hld
      cases hc : cutOf b1 n.toNat with
      | none =>
        have HC := Lib.hid hc; clear hc
        have HF : Hid (T = none) := Lib.hid (by rw [← H1.out.2.2, piecesL, if_neg hz, HC.out])
        have H3d : Hid (Upd (fun k => k = g ∨ k = go) w wr.drew) := Lib.hid H3.out.drew
        go_wp2_with fail
        go_region_with (go_at_call 49; refine (cut_short g b1 n _ HB.out (by omega) h4 (by unfold maxLen; have := H1.out; omega) HC.out).mono ?_; rintro e w2 ⟨rfl, hu2⟩; refine closed_way ⟨rfl, piecesP_short_end HF.out (H3d.out.trans hu2 (fun _ e => .inl (.inl e)))⟩ w2 ?_)
        all_goals trivial
      | some x =>
        obtain ⟨s, r⟩ := x
        have HC := Lib.hid hc; clear hc
        have HSZ := Lib.hid (cutOf_size HC.out)
        go_wp2_with fail
        go_region_law (first | (refine goes_ Try.func49 (by kernel_rfl) rfl #[.pointer (some ⟨g, 0, none⟩), .int .i64 n] (by rfl) (by rfl) (by rfl) (by (try simp only [List.map_toArray, List.map_cons, List.map_nil]); first | done | rfl) ?_; refine (cut_ok g b1 n _ s r HB.out (by omega) h4 (by unfold maxLen; have := H1.out; omega) HC.out).mono ?_; rintro e w2 ⟨rfl, hb2, hu2⟩; refine ⟨_, rfl, ?_⟩; have c2 : w2.cell? ⟨go, 0, none⟩ = some v1 := blk_cell (hu2.heap HO.out (by omega)) 0; have c4 : (w2.alloc (.cells #[.string s] 9)).cell? ⟨go, 0, none⟩ = some v1 := blk_cell (alloc_old (hu2.heap HO.out (by omega))) 0) | (refine Kd.R_append_step Kd.string (w0 := w0) (W := w2) B (by simp [Region.wanted]) (.tmp 9) (.tmp 13) 42 9 (.string ⟨#[]⟩) 16 (by rfl) Try.underlying42 info_str (by rfl) (by decide) (by omega) v1 xs s [.string s] (fun k => k ≠ g ∧ k ≠ go ∧ w.heap.size ≤ k) (fun _ => False) (by rfl) (by rfl) (by rfl) (fun _ h => h.elim) (fun k hk => ⟨by have := blk_lt hb2; omega, by have := blk_lt (hu2.heap HO.out (by omega)); omega, Nat.le_trans HS.out (Nat.le_trans hu2.size hk)⟩) (R_upd HV.out hu2 (fun k h => h.1)) (hu2.below HE.out (Nat.le_trans hB (Nat.le_of_lt (blk_lt HB.out))) (fun i h => by omega)) (Nat.le_trans hB (Nat.le_of_lt (blk_lt hb2))) (by have := H1.out; omega) ?_; intro v2 w3 ho3 hb3 hg3 hat3; obtain ⟨A2, c2', rfl⟩ := Kd.R_slice ho3; rw [List.length_append, List.length_singleton] at ho3; have f3 : w3.frozen? ⟨go, 0, none⟩ = false := blk_frozen (blk_grown (hu2.heap HO.out (by omega)) hg3 (fun e => (HV.out.1 go e.symm).2.1 rfl)) 0; have c3 : w3.cell? ⟨go, 0, none⟩ = some v1 := blk_cell (blk_grown (hu2.heap HO.out (by omega)) hg3 (fun e => (HV.out.1 go e.symm).2.1 rfl)) 0; have HO3 := Lib.hid ho3; clear ho3; have HB3 := Lib.hid hb3; clear hb3; have HG3 := Lib.hid hg3))
        all_goals
          go_wp2_with fail
          go_roundg k
          case measure => omega
          case rel => exact ⟨r, _, xs ++ [s], Lib.hid ⟨by have := H1.out.1; have := HSZ.out.1; omega, by rw [List.length_append, List.length_singleton]; have := H1.out.2.1; have := HSZ.out.1; omega, by have := H1.out.2.2; rw [piecesL, if_neg hz, HC.out] at this; exact this⟩, Lib.hid (roundP_next hb2 (hu2.heap HO.out (by omega)) HO3.out HB3.out HG3.out HV.out.1 hgo hB2), Lib.hid (upd_next (H3.out.drew) hu2 HG3.out (fun k e => (HV.out.1 k e).2.2))⟩

set_option maxHeartbeats 400000 in
set_option maxRecDepth 100000 in
theorem reading_pieces_ok (c1 c2 : Value) (b : ByteArray) (S : Nat → Prop) (Q : World → Prop) (w : World) (hS : ∀ k, S k → k < w.heap.size) (hQ : ∀ a b, Upd (fun k => k = w.heap.size ∨ k = w.heap.size + 1) a b → Q a → Q b)
    (hcl : Hid (Calls Try.prog 50 #[.pointer (some ⟨w.heap.size + 1 + 1, 0, none⟩), c1, c2] (W3 w b) fun e w' => e = .returned (.tuple #[]) ∧ (∃ r, Rd w' (w.heap.size + 1 + 1) r) ∧ Q w' ∧ Upd (fun k => k = w.heap.size + 1 + 1 ∨ S k) (W3 w b) w')) :
    Calls Try.prog 36 #[.string b, .func (.func 50) #[] #[c1, c2]] w fun e w' => (∃ r : ByteArray, e = .returned (.tuple #[.string r, .int .i64 0])) ∧ Q w' ∧ Upd S w w' := by
  have hmf : ∀ (fn : Fn) (first cap : Array Value) (w : World), (Instr.makeFunc fn first cap).run Try.prog w = .ok (.func fn first cap) w := fun _ _ _ _ => rfl
  have HS := Lib.hid hS; clear hS
  have HQ := Lib.hid hQ; clear hQ
  go_enter_defers Try.func36, Try.ntmps36
  go_wp2_with fail
  refine hcl.out.mono ?_
  rintro e w1 ⟨rfl, ⟨r, hb1⟩, hq1, hu1⟩
  have s1 := hu1.heap (three _ _ _).1 (fun h => h.elim (fun h => by omega) (fun h => by have := HS.out _ h; omega))
  have s2 := hu1.heap (three _ _ _).2.1 (fun h => h.elim (fun h => by omega) (fun h => by have := HS.out _ h; omega))
  have c1 : w1.cell? ⟨w.heap.size + 1 + 1, 0, none⟩ = some (.string r) := hb1.cell
  have c2 : w1.cell? ⟨w.heap.size, 0, none⟩ = some (.string ⟨#[]⟩) := blk_cell s1 0
  have f2 := blk_frozen s1 0
  have s3 := blk_far s2 (p := ⟨w.heap.size, 0, none⟩) (by show w.heap.size + 1 ≠ w.heap.size; omega) (.string r)
  have c3 : (w1.setCell ⟨w.heap.size, 0, none⟩ (.string r)).cell? ⟨w.heap.size + 1, 0, none⟩ = some (.int .i64 0) := blk_cell s3 0
  have f3 := blk_frozen s2 0
  have S1 := Lib.hid s1; clear s1
  have S3 := Lib.hid s3; clear s3
  clear s2
  have HX := Lib.hid hq1; clear hq1
  have HU := Lib.hid ((W3_upd w b S).trans hu1 (fun i h => h.elim (fun h => .inr (by omega)) .inl)); clear hu1
  go_wp2_with fail
  have hr := door_ok (v0 := .string ⟨#[]⟩) (v1 := .int .i64 0) (.string r) (.int .i64 0) S1.out S3.out HX.out HQ.out HU.out
  generalize (w1.setCell ⟨w.heap.size, 0, none⟩ (.string r)).setCell ⟨w.heap.size + 1, 0, none⟩ (.int .i64 0) = W at hr
  obtain ⟨r1, r2, r3, r4⟩ := hr
  refine leaves_cons (f := 52) (args := #[.pointer (some ⟨w.heap.size, 0, none⟩), .pointer (some ⟨w.heap.size + 1, 0, none⟩)]) (by simp) (by simp [go_sem]) ?_
  refine (catch_idle _ _ _).mono ?_
  rintro e u' w'' ⟨rfl, rfl, rfl⟩
  have R3 := Lib.hid r3
  clear r3
  simp [Leaves, settle, results, Try.results36, go_sem, r1, r2]
  exact ⟨R3.out, r4⟩

set_option maxHeartbeats 400000 in
set_option maxRecDepth 100000 in
theorem reading_pieces_short (c1 c2 : Value) (b : ByteArray) (S : Nat → Prop) (w : World) (hS : ∀ k, S k → k < w.heap.size)
    (hcl : Hid (Calls Try.prog 50 #[.pointer (some ⟨w.heap.size + 1 + 1, 0, none⟩), c1, c2] (W3 w b) fun e w' => e = .panicked short ∧ Upd (fun k => k = w.heap.size + 1 + 1 ∨ S k) (W3 w b) w')) :
    Calls Try.prog 36 #[.string b, .func (.func 50) #[] #[c1, c2]] w fun e w' => e = .returned (.tuple #[.string ⟨#[]⟩, .int .i64 2]) ∧ Upd S w w' := by
  have hmf : ∀ (fn : Fn) (first cap : Array Value) (w : World), (Instr.makeFunc fn first cap).run Try.prog w = .ok (.func fn first cap) w := fun _ _ _ _ => rfl
  have HS := Lib.hid hS; clear hS
  go_enter_defers Try.func36, Try.ntmps36
  go_wp2_with fail
  refine hcl.out.mono ?_
  rintro e w1 ⟨rfl, hu1⟩
  have s1 := hu1.heap (three _ _ _).1 (fun h => h.elim (fun h => by omega) (fun h => by have := HS.out _ h; omega))
  have s2 := hu1.heap (three _ _ _).2.1 (fun h => h.elim (fun h => by omega) (fun h => by have := HS.out _ h; omega))
  have S1 := Lib.hid s1; clear s1
  have S2 := Lib.hid s2; clear s2
  have HU := Lib.hid ((W3_upd w b S).trans hu1 (fun i h => h.elim (fun h => .inr (by omega)) .inl)); clear hu1
  go_wp2_with fail
  refine leaves_cons (f := 52) (args := #[.pointer (some ⟨w.heap.size, 0, none⟩), .pointer (some ⟨w.heap.size + 1, 0, none⟩)]) (by simp) (by simp [go_sem]) ?_
  refine (catch_short w.heap.size (w.heap.size + 1) ⟨#[]⟩ 0 [] w1 (by omega) S1.out S2.out).mono ?_
  rintro e u' w2 ⟨rfl, rfl, r1, r2, r4⟩
  have r1 : w2.cell? ⟨w.heap.size, 0, none⟩ = some (.string ⟨#[]⟩) := blk_cell r1 0
  have r2 : w2.cell? ⟨w.heap.size + 1, 0, none⟩ = some (.int .i64 2) := blk_cell r2 0
  have R4 := Lib.hid (HU.out.trans r4 (fun i h => .inr (by omega))); clear r4
  simp [Leaves, settle, results, Try.results36, go_sem, r1, r2]
  exact R4.out

set_option maxHeartbeats 400000 in
set_option maxRecDepth 100000 in
theorem Pieces_arg (b : ByteArray) (n : Int) (w : World) (h : decide (n = 1 ∨ n = 2 ∨ n = 4) = false) :
    Calls Try.prog 28 #[.string b, .int .i64 n] w fun e w' => e = .returned (.tuple #[.slice none 0 0, .int .i64 1]) ∧ Below w.heap.size w w' := by
  have H := Lib.hid h; clear h
  go_enter Try.func28, Try.ntmps28
  go_wp2_with fail
  refine (piece_any n _ false H.out).mono ?_
  rintro e w1 ⟨rfl, rfl⟩
  go_wp2_with fail
  go_ret2
  exact ⟨rfl, below_alloc (Below.refl _ _) _⟩

/-- What Pieces' closure has to begin with. -/
theorem pieces1_at (b : ByteArray) (n : Int) (w : World) (T : Option (List ByteArray)) (hT : piecesL n.toNat b.size b [] = T) (h1 : 1 ≤ n) (h4 : n ≤ 4) (hs : b.size < 8796093022208) :
    Calls Try.prog 50 #[.pointer (some ⟨((w.alloc (.cells #[.int .i64 n] 3 (0, 0))).alloc (.cells #[.slice none 0 0] 42 (0, 0))).heap.size + 1 + 1, 0, none⟩), .pointer (some ⟨w.heap.size + 1, 0, none⟩), .pointer (some ⟨w.heap.size, 0, none⟩)] (W3 ((w.alloc (.cells #[.int .i64 n] 3 (0, 0))).alloc (.cells #[.slice none 0 0] 42 (0, 0))) b) fun e w' =>
      PiecesEnd w.heap.size (w.heap.size + 2 + 1 + 1) (w.heap.size + 1) w (W3 ((w.alloc (.cells #[.int .i64 n] 3 (0, 0))).alloc (.cells #[.slice none 0 0] 42 (0, 0))) b) T e w' := by
  obtain ⟨t1, t2⟩ := two2 (w := w) (.cells #[.int .i64 n] 3 (0, 0)) (.cells #[.slice none 0 0] 42 (0, 0))
  have hb2 : Below w.heap.size w ((w.alloc (.cells #[.int .i64 n] 3 (0, 0))).alloc (.cells #[.slice none 0 0] 42 (0, 0))) := below_alloc (below_alloc (Below.refl _ _) _) _
  have hsz : ((w.alloc (.cells #[.int .i64 n] 3 (0, 0))).alloc (.cells #[.slice none 0 0] 42 (0, 0))).heap.size = w.heap.size + 2 := by simp
  generalize ((w.alloc (.cells #[.int .i64 n] 3 (0, 0))).alloc (.cells #[.slice none 0 0] 42 (0, 0))) = W at t1 t2 hb2 hsz
  have hbW : Below w.heap.size w (W3 W b) := Upd.below hb2 (W3_upd W b (fun _ => False)) (by omega) (fun _ h => h.elim)
  have hrd := W3_rd W b
  rw [hsz] at hrd ⊢
  exact pieces1 w.heap.size (w.heap.size + 2 + 1 + 1) w.heap.size (w.heap.size + 1) b n (.slice none 0 0) w (W3 W b) T hT
    ⟨hrd, W3_heap b t2, Kd.R_nil _ _ _ _ _, hbW⟩ (blk_cell (W3_heap b t1) 0) (by omega) (by omega) (by omega) (by omega) (by omega) h1 h4 hs

set_option maxHeartbeats 400000 in
set_option maxRecDepth 100000 in
theorem Pieces_short (b : ByteArray) (n : Int) (w : World) (h : decide (n = 1 ∨ n = 2 ∨ n = 4) = true) (hs : b.size < 8796093022208) (hT : piecesL n.toNat b.size b [] = none) :
    Calls Try.prog 28 #[.string b, .int .i64 n] w fun e w' => e = .returned (.tuple #[.slice none 0 0, .int .i64 2]) ∧ Below w.heap.size w w' := by
  have hmf : ∀ (fn : Fn) (first cap : Array Value) (w : World), (Instr.makeFunc fn first cap).run Try.prog w = .ok (.func fn first cap) w := fun _ _ _ _ => rfl
  have hn : 1 ≤ n ∧ n ≤ 4 := by have := of_decide_eq_true h; omega
  obtain ⟨n0, n4⟩ := hn
  have H := Lib.hid h; clear h
  have HT := Lib.hid hT; clear hT
  go_enter Try.func28, Try.ntmps28
  go_wp2_with fail
  refine (piece_any n _ true H.out).mono ?_
  rintro e w1 ⟨rfl, rfl⟩
  go_wp2_with fail
  have hcl := (pieces1_at b n w none HT.out n0 n4 hs).mono (R' := fun e w' => e = .panicked short ∧ Upd (fun k => k = ((w.alloc (.cells #[.int .i64 n] 3 (0, 0))).alloc (.cells #[.slice none 0 0] 42 (0, 0))).heap.size + 1 + 1 ∨ k = w.heap.size + 1) (W3 ((w.alloc (.cells #[.int .i64 n] 3 (0, 0))).alloc (.cells #[.slice none 0 0] 42 (0, 0))) b) w') (fun e w' ⟨hu, he⟩ => ⟨he, by simpa using hu⟩)
  refine (reading_pieces_short _ _ b (· = w.heap.size + 1) _ (fun k hk => by simp; omega) (Lib.hid hcl)).mono ?_
  rintro e w2 ⟨rfl, hu⟩
  have hbl : Below w.heap.size w w2 := hu.below (below_alloc (below_alloc (Below.refl _ _) _) _) (by simp; omega) (fun i h => by omega)
  go_wp2_with fail
  go_ret2
  exact ⟨rfl, hbl⟩

/-- What is kept of out when reading has returned. -/
def OutAtP (w : World) (xs : List ByteArray) (W : World) : Prop := ∃ v, W.heap[w.heap.size + 1]? = some (.cells #[v] 42 (0, 0)) ∧ Kd.string.R 9 W w.heap.size (fun k => w.heap.size + 5 ≤ k) v xs
theorem OutAtP.keep {w : World} {xs : List ByteArray} {a b : World} (h : Upd (fun k => k = w.heap.size + 2 ∨ k = w.heap.size + 2 + 1) a b) (ha : OutAtP w xs a) : OutAtP w xs b := by
  obtain ⟨v, h1, h2⟩ := ha
  exact ⟨v, h.heap h1 (by omega), R_upd h2 h (fun k hk => by omega)⟩

set_option maxHeartbeats 400000 in
set_option maxRecDepth 100000 in
theorem Pieces_ok (b : ByteArray) (n : Int) (xs : List ByteArray) (w : World) (h : decide (n = 1 ∨ n = 2 ∨ n = 4) = true) (hs : b.size < 8796093022208) (hT : piecesL n.toNat b.size b [] = some xs) :
    Calls Try.prog 28 #[.string b, .int .i64 n] w fun e w' => ∃ v : Value, e = .returned (.tuple #[v, .int .i64 0]) ∧ Kd.string.R 9 w' w.heap.size (fun _ => True) v xs ∧ Below w.heap.size w w' := by
  have hmf : ∀ (fn : Fn) (first cap : Array Value) (w : World), (Instr.makeFunc fn first cap).run Try.prog w = .ok (.func fn first cap) w := fun _ _ _ _ => rfl
  have hn : 1 ≤ n ∧ n ≤ 4 := by have := of_decide_eq_true h; omega
  obtain ⟨n0, n4⟩ := hn
  have H := Lib.hid h; clear h
  have HT := Lib.hid hT; clear hT
  go_enter Try.func28, Try.ntmps28
  go_wp2_with fail
  refine (piece_any n _ true H.out).mono ?_
  rintro e w1 ⟨rfl, rfl⟩
  go_wp2_with fail
  have hcl := (pieces1_at b n w (some xs) HT.out n0 n4 hs).mono (R' := fun e w' => e = .returned (.tuple #[]) ∧ (∃ r, Rd w' (((w.alloc (.cells #[.int .i64 n] 3 (0, 0))).alloc (.cells #[.slice none 0 0] 42 (0, 0))).heap.size + 1 + 1) r) ∧ OutAtP w xs w' ∧ Upd (fun k => k = ((w.alloc (.cells #[.int .i64 n] 3 (0, 0))).alloc (.cells #[.slice none 0 0] 42 (0, 0))).heap.size + 1 + 1 ∨ k = w.heap.size + 1) (W3 ((w.alloc (.cells #[.int .i64 n] 3 (0, 0))).alloc (.cells #[.slice none 0 0] 42 (0, 0))) b) w') (fun e w' ⟨hu, he, v', r, hv⟩ =>
      ⟨he, ⟨r, by simpa using hv.rd⟩, ⟨v', hv.out, Kd.R_mono hv.own (fun k hk => by have := hk.2.2; rw [W3_size] at this; simp at this; omega)⟩, by simpa using hu⟩)
  refine (reading_pieces_ok _ _ b (· = w.heap.size + 1) (OutAtP w xs) _ (fun k hk => by simp; omega) (fun x y hxy hx => OutAtP.keep (by simpa using hxy) hx) (Lib.hid hcl)).mono ?_
  rintro e w2 ⟨⟨r, rfl⟩, ⟨v, hq, hv⟩, hu⟩
  have hbl : Below w.heap.size w w2 := hu.below (below_alloc (below_alloc (Below.refl _ _) _) _) (by simp; omega) (fun i h => by omega)
  have cq : w2.cell? ⟨w.heap.size + 1, 0, none⟩ = some v := blk_cell hq 0
  clear hq
  go_wp2_with fail
  go_ret2
  exact ⟨v, rfl, Kd.R_mono hv (fun _ _ => trivial), hbl⟩

end Go.Proofs.Ythcbgoldkoobdaa.Oct
namespace Go.Proofs.Ythcbgoldkoobdaa.Given
open Go.RowKit Go.Proofs.YthcbgoldkoobdaaW.PrintWords Go.Proofs.Ythcbgoldkoobdaa.Oct

/-- Pieces: the pieces, or the error. -/
def octets_Pieces.f (a0 : ByteArray) (a1 : Int) : Option (List ByteArray × Int) :=
  if a0.size < 8796093022208 then
    if a1 = 1 ∨ a1 = 2 ∨ a1 = 4 then
      match piecesL a1.toNat a0.size a0 [] with
      | some xs => some (xs, 0)
      | none => some ([], 2)
    else some ([], 1)
  else none
theorem octets_Pieces.calls (a0 : ByteArray) (a1 : Int) (r1 : List ByteArray) (r2 : Int) (w : World) (h : octets_Pieces.f a0 a1 = some (r1, r2)) :
    Calls Try.prog 28 #[.string a0, .int .i64 a1] w fun e w' => ∃ v0_ : Value, e = .returned (.tuple #[v0_, .int .i64 r2]) ∧ Kd.R Kd.string 9 w' w.heap.size (fun _ => True) v0_ r1 ∧ Below w.heap.size w w' := by
  unfold octets_Pieces.f at h
  by_cases hs : a0.size < 8796093022208
  · rw [if_pos hs] at h
    by_cases hw : a1 = 1 ∨ a1 = 2 ∨ a1 = 4
    · rw [if_pos hw] at h
      cases hc : piecesL a1.toNat a0.size a0 [] with
      | none =>
        rw [hc] at h
        simp only [Option.some.injEq, Prod.mk.injEq] at h
        obtain ⟨rfl, rfl⟩ := h
        exact (Pieces_short a0 a1 w (decide_eq_true hw) hs hc).mono fun e w' ⟨he, hb⟩ => ⟨_, he, Kd.R_nil _ _ _ _ _, hb⟩
      | some xs =>
        rw [hc] at h
        simp only [Option.some.injEq, Prod.mk.injEq] at h
        obtain ⟨rfl, rfl⟩ := h
        exact Pieces_ok a0 a1 xs w (decide_eq_true hw) hs hc
    · rw [if_neg hw] at h
      simp only [Option.some.injEq, Prod.mk.injEq] at h
      obtain ⟨rfl, rfl⟩ := h
      exact (Pieces_arg a0 a1 w (decide_eq_false hw)).mono fun e w' ⟨he, hb⟩ => ⟨_, he, Kd.R_nil _ _ _ _ _, hb⟩
  · rw [if_neg hs] at h; cases h

end Go.Proofs.Ythcbgoldkoobdaa.Given
