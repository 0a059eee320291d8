/- Contracts and facts that the claim's row is drawn from, each with its own conditions. -/
import Derived.Test.YtjmpckommjlnlaaGreatJoined6
import Derived.Deep.QuietTactic
import Derived.BigQuiet
import Derived.Deep.LoopGhost
import Derived.Lib.Join
import Derived.BigRegion
import Derived.StillTailTactics
import Derived.Test.YtjmpckommjlnlaaGreatProg
import Derived.Below
import Derived.Deep.Draws
import Derived.Deep.AppendLies
import Derived.Maps.AppendAt
import Derived.OwnWalk
import Derived.Laws.BytesArg
import Derived.Laws.MakeOwn
import Derived.Laws.OwnMore
import Derived.Deep.OwnRows
import Derived.Tactics
import Derived.Lib.ConvBytes
import Derived.Laws.Slices
import Derived.WalkKit
import Derived.KernelRfl
import Derived.RowKit3
import Derived.WideLaws
import Derived.Deep.DeepCutAuto
import Derived.Deep.CutBlock
import Derived.Deep.RegionHeld3
import Derived.Laws.Rows
import Derived.Lib.AppendStr
import Derived.ArgAppend
import Derived.Laws.IdiomCopy
import Derived.OrdersHeld
import Derived.Laws.BitsLemmas
import Derived.RowKit
namespace Go.Proofs.YtjmpckommjlnlaaGreat.Given
open Go.RowKit Go.Proofs.YtjmpckommjlnlaaGreatW.PrintWords Go.Proofs.YtjmpckommjlnlaaGreatW.PrintLast Go.Proofs.YtjmpckommjlnlaaGreatW.PrintMore Go.Proofs.YtjmpckommjlnlaaGreat.PRd Go.Proofs.YtjmpckommjlnlaaGreat.PRr Go.Proofs.YtjmpckommjlnlaaGreat.Rrs Go.Proofs.YtjmpckommjlnlaaGreat.Oct Go.Proofs.YtjmpckommjlnlaaGreat.RdataFacts
set_option linter.unusedVariables false
set_option linter.unusedSimpArgs false
def namesL (l : List RR) : List ByteArray := (Go.Lib.compact ((l.map fun x => foldN x.f0).map (·.data.toList))).map arr
def zone_Zone_Names.f (a0_0 : ByteArray) (l0_1 : List (S35)) (a0_2 : Int) : Option (List ByteArray) := if l0_1.length ≤ 1000000 then some (namesL l0_1) else none
set_option maxHeartbeats 8000000 in
set_option maxRecDepth 100000 in
theorem zone_Zone_Names.calls (a0_0 : ByteArray) (A0_1 : Option Addr) (c0_1 : Nat) (l0_1 : List (S35)) (a0_2 : Int) (r : List ByteArray) (w : World) (hr0_1 : Kd.C k35 w A0_1 l0_1.length l0_1) (hc0_1 : l0_1.length ≤ c0_1) (h : zone_Zone_Names.f a0_0 l0_1 a0_2 = some r) :
    Calls Tryz.prog 25 #[.agg #[.string a0_0, .slice A0_1 l0_1.length c0_1, .int .i64 a0_2]] w fun e w' => ∃ v0_ : Value, e = .returned (v0_) ∧ Kd.R Kd.string 9 w' w.heap.size (fun _ => True) v0_ r ∧ Below w.heap.size w w' := by
  unfold zone_Zone_Names.f at h
  have hn : l0_1.length ≤ 1000000 := Classical.byContradiction fun hn => by rw [if_neg hn] at h; cases h
  rw [if_pos hn] at h
  injection h with h
  have HR := Lib.hid hr0_1
  have HH := Lib.hid h
  obtain ⟨n, hnn⟩ : ∃ n, l0_1.length = n := ⟨_, rfl⟩
  have HN := Lib.hid hnn
  rw [hnn] at hn ⊢
  have HB := Aside0.mk (Below.refl w.heap.size w)
  have hu27 := Tryz.underlying26
  have hu41 := Tryz.underlying35
  clear hr0_1 hc0_1 h hnn
  go_enter Tryz.func25, Tryz.ntmps25
  go_wp2_with (first | ((with_reducible refine gate_dst (N := 1) rfl ?_); refine box_event ?hg (N := 1) ?hd (cs := #[.string a0_0, .slice A0_1 n c0_1, .int .i64 a0_2]) (t := 26) ?hr ?_; (case hd => rfl); (case hg => rfl); (case hr => first | (go_simp; done) | (go_simp; rfl)); intro gb hg w3 hbox hb; have n0_ := Aside0.mk (below_step (HB.out) hb); have n1_ := Aside0.mk (hbox); clear HB; have HB := n0_; have BK := n1_; clear n0_ n1_; clear hb hbox hg; have hcz0 : w3.cell? ⟨gb, 0, none⟩ = some (.string a0_0) := (blk_cell BK.out 0).trans rfl; have hcz1 : w3.cell? ⟨gb, 1, none⟩ = some (.slice A0_1 n c0_1) := (blk_cell BK.out 1).trans rfl; have hcz2 : w3.cell? ⟨gb, 2, none⟩ = some (.int .i64 a0_2) := (blk_cell BK.out 2).trans rfl))
  go_loopg [3, 9] n (fun kx s3 s9 wr => ∃ i : Nat, s9 = .int .i64 (i : Int) ∧ i ≤ n ∧ n - i ≤ kx ∧ Hid (Kd.R Kd.string 9 wr w.heap.size (fun _ => True) s3 ((l0_1.take i).map fun x => foldN x.f0)) ∧ Hid (Below w.heap.size w wr))
  case atStart => exact ⟨0, rfl, by omega, by omega, Lib.hid (Kd.R_nil _ _ _ _ _), Lib.hid HB.out⟩
  case round =>
    clear HB BK hcz0 hcz1 hcz2
    obtain ⟨i, rfl, hin, hik, HO, HB⟩ := hrel
    by_cases hlt : i < n
    · have p1 : (0 : Int) ≤ (i : Int) := by omega
      have q1 : (i : Int) < (l0_1.length : Int) := by rw [HN.out]; omega
      obtain ⟨ad, e1, hx0, hx1, hx2, hx3, hx4⟩ := at_T35 HR.out (i : Int) p1 q1
      cases e1
      rw [Int.toNat_natCast] at hx0 hx1 hx2 hx3 hx4
      replace hx0 := (HB.out.cell (World.block_lt_of_cell? w _ hx0)).trans hx0
      replace hx1 := (HB.out.cell (World.block_lt_of_cell? w _ hx1)).trans hx1
      replace hx2 := (HB.out.cell (World.block_lt_of_cell? w _ hx2)).trans hx2
      replace hx3 := (HB.out.cell (World.block_lt_of_cell? w _ hx3)).trans hx3
      replace hx4 := (HB.out.cell (World.block_lt_of_cell? w _ hx4)).trans hx4
      have q2 : (i : Int) < (n : Int) := by omega
      obtain ⟨x, hx⟩ : ∃ x, rdR l0_1 (i : Nat) = x := ⟨_, rfl⟩
      rw [show rd_T35 l0_1 (i : Int) = x from hx] at hx0 hx1 hx2 hx3 hx4
      have hxl : x = l0_1[i]'(by rw [HN.out]; exact hlt) := by rw [← hx, rdR_get l0_1 i (by rw [HN.out]; exact hlt)]
      have HX := Lib.hid hxl
      have hw1 : IntKind.i64.wrap ((i : Int) + 1) = (i : Int) + 1 := by rw [IntKind.wrap_i64]; omega
      clear hxl hx q1
      go_wp2_with fail
      have hB1 : Below w.heap.size w (wr.alloc (.cells #[.string x.f0, .int .i64 x.f1, .int .i64 x.f2, .int .i64 x.f3, .string x.f4] 35)) := below_alloc HB.out _
      have hO1 := Kd.R_alloc HO.out (.cells #[.string x.f0, .int .i64 x.f1, .int .i64 x.f2, .int .i64 x.f3, .string x.f4] 35)
      generalize wr.alloc (.cells #[.string x.f0, .int .i64 x.f1, .int .i64 x.f2, .int .i64 x.f3, .string x.f4] 35) = w1 at hB1 hO1 ⊢
      refine (name_Fold.calls x.f0 (foldN x.f0) w1 (fold_f x.f0)).mono ?_
      rintro e w4 ⟨rfl, hb4⟩
      have HB4 := Lib.hid (below_then hB1 hB1.size hb4)
      have HO4 := Lib.hid (Kd.R_below hO1 hb4)
      clear hb4 HB HO hB1 hO1 hx0 hx1 hx2 hx3 hx4
      have HSTEP := Lib.hid (show ((l0_1.take (i + 1)).map fun x => foldN x.f0) = ((l0_1.take i).map fun x => foldN x.f0) ++ [foldN x.f0] by
        rw [List.take_add_one, List.getElem?_eq_getElem (by rw [HN.out]; exact hlt), List.map_append]
        congr 1
        rw [HX.out]
        rfl)
      obtain ⟨y, hy⟩ : ∃ y, foldN x.f0 = y := ⟨_, rfl⟩
      rw [hy] at HSTEP ⊢
      clear hy
      go_wp2_with (first | ((with_reducible refine gate_builtin (b := .append) (xs := #[.tmp 13, .tmp 17]) rfl ?_); at_builtin; refine Kd.R_append Kd.string (w0 := w) w.heap.size rfl (.tmp 13) (.tmp 17) 45 9 (.string ⟨#[]⟩) 16 rfl Tryz.underlying45 info9 rfl (by decide) (by omega) u3 ((l0_1.take i).map fun x => foldN x.f0) y [.string y] (fun _ => True) (fun _ => False) rfl rfl ?aP (fun _ hk => hk.elim) ?aF ?aO ?aB ?aS ?aL ?_; (case aP => exact rfl); (case aB => exact (by repeat (first | (with_reducible first | exact HB4.out | apply below_alloc | apply pw_below_drewN | apply below_drew1) | exact HB4.out))); (case aF => exact (fun _ _ => trivial)); (case aO => exact (by (with_reducible repeat (first | apply Kd.R_alloc | apply Kd.R_drewN | apply Kd.R_drew)); exact HO4.out)); (case aS => exact (below_size (by repeat (first | (with_reducible first | exact HB4.out | apply below_alloc | apply pw_below_drewN | apply below_drew1) | exact HB4.out)))); (case aL => have h2 := HN.out; rw [List.length_map, List.length_take]; omega); intro v7 w7 ho hb hg hat; have n0_ := Lib.hid hb; have n1_ := Lib.hid ho; clear HB4 HO4; have HB4 := n0_; have HO4 := n1_; clear n0_ n1_ ho hb hg hat))
      go_roundg (n - (i + 1))
      case measure => omega
      case rel => exact ⟨i + 1, by rw [show ((i + 1 : Nat) : Int) = (i : Int) + 1 by omega], by omega, Nat.le_refl _, Lib.hid (by rw [HSTEP.out]; exact HO4.out), HB4⟩
    · obtain rfl : i = n := by omega
      have b1 : ¬ ((i : Int) < (i : Int)) := by omega
      have hO := HO.out
      rw [List.take_of_length_le (by rw [HN.out]; exact Nat.le_refl _)] at hO
      have HC := Lib.hid (StrRows.compact_str (l0_1.map fun x => foldN x.f0) (by rw [List.length_map, HN.out]; exact hn) w.heap.size (fun _ => True) w wr HB.out _ hO)
      clear hO HO HB
      go_wp2_with fail
      refine HC.out.mono ?_
      rintro e w5 ⟨v5, rfl, hv5, hb5⟩
      have HV5 := Lib.hid hv5
      have HB5 := Lib.hid hb5
      clear hv5 hb5 HC
      go_wp2_with fail
      go_ret
      exact ⟨_, rfl, by rw [← HH.out]; exact HV5.out, HB5.out⟩
end Go.Proofs.YtjmpckommjlnlaaGreat.Given
namespace Go.Proofs.YtjmpckommjlnlaaGreat.RdataFacts
open Go.Proofs
open Go.RowKit Go.Proofs.YtjmpckommjlnlaaGreat.PRd Go.Proofs.YtjmpckommjlnlaaGreatW.PrintWords Go.Proofs.YtjmpckommjlnlaaGreatW.PrintLast Go.Proofs.YtjmpckommjlnlaaGreatW.PrintMore Go.Proofs.YtjmpckommjlnlaaGreat.Given Go.Proofs.YtjmpckommjlnlaaGreat.Oct Go.Proofs.YtjmpckommjlnlaaGreat.Name Go.Proofs.YtjmpckommjlnlaaGreat.PackFacts Go.Proofs.YtjmpckommjlnlaaGreat.Rdata
open Go.Proofs.YtjmpckommjlnlaaGreat.OctFacts (w64_id bt_list rdo_at number_f rd_at)
set_option linter.unusedVariables false
set_option linter.unusedSimpArgs false
def soaL (B : ByteArray) : List ByteArray := (walkP B (partsL 6) 0).1.map (·.2)
theorem readS_right (m : ByteArray) : ∀ (d i : Nat) (n : ByteArray) (nx : Int) (fr : Nat) (x : ByteArray) (y : Int), readS m d i n nx fr = (x, y, 0) → rightB x = true := by
  intro d
  induction d with
  | zero => intro i n nx fr x y h; rw [readS, err] at h; simp at h
  | succ d ih =>
    intro i n nx fr x y h
    rw [readS] at h
    split at h
    · rw [err] at h; simp at h
    · split at h
      · rw [err] at h; simp at h
      · exact ih _ _ _ _ _ _ h
    · split at h
      · split at h
        · rename_i hr
          simp only [Prod.mk.injEq] at h
          obtain ⟨rfl, _, _⟩ := h
          exact hr
        · rw [err] at h; simp at h
      · exact ih _ _ _ _ _ _ h
theorem walk_cons {B : ByteArray} {kind : Int} {ks : List Int} {at_ : Nat} (h : (walkP B (kind :: ks) at_).2 = true) : ∃ s n, partP B at_ kind = some (s, n) ∧ (walkP B ks n).2 = true ∧ (walkP B (kind :: ks) at_).1 = (kind, s) :: (walkP B ks n).1 := by
  rw [walkP] at h ⊢
  cases hp : partP B at_ kind with
  | none => rw [hp] at h; simp at h
  | some x => obtain ⟨s, n⟩ := x; rw [hp] at h; exact ⟨s, n, rfl, h, rfl⟩
theorem part_four {B s : ByteArray} {at_ n : Nat} (h : partP B at_ 4 = some (s, n)) : s.size = 4 ∧ n = at_ + 4 := by
  unfold partP at h
  rw [if_neg (by decide), if_neg (by decide), if_neg (by decide), if_neg (by decide)] at h
  split at h
  · cases h
  · simp only [Option.some.injEq, Prod.mk.injEq] at h
    obtain ⟨rfl, rfl⟩ := h
    have e4 : (4 : Int).toNat = 4 := rfl
    rw [e4, ByteArray.size_extract]
    omega
theorem part_name {B s : ByteArray} {at_ n : Nat} (h : partP B at_ (-1) = some (s, n)) : rightB s = true ∧ readR B at_ = (s, (n : Int), 0) := by
  unfold partP at h
  rw [if_pos rfl] at h
  split at h
  · rename_i hz
    obtain ⟨x, y, e, _⟩ := readR_ok hz
    rw [e] at h
    simp only [Option.some.injEq, Prod.mk.injEq, Int.toNat_natCast] at h
    obtain ⟨rfl, rfl⟩ := h
    exact ⟨readS_right _ _ _ _ _ _ _ _ e, e⟩
  · cases h
theorem parts6 : partsL 6 = [-1, -1, 4, 4, 4, 4, 4] := by decide
theorem soa_walk {B : ByteArray} (h : (walkP B (partsL 6) 0).2 = true) : ∃ m r s1 s2 s3 s4 s5, soaL B = [m, r, s1, s2, s3, s4, s5] ∧ rightB m = true ∧ rightB r = true ∧ s1.size = 4 ∧ s2.size = 4 ∧ s3.size = 4 ∧ s4.size = 4 ∧ s5.size = 4 := by
  unfold soaL
  rw [parts6] at h ⊢
  obtain ⟨m, n0, p0, h, e0⟩ := walk_cons h
  obtain ⟨r, n1, p1, h, e1⟩ := walk_cons h
  obtain ⟨s1, n2, p2, h, e2⟩ := walk_cons h
  obtain ⟨s2, n3, p3, h, e3⟩ := walk_cons h
  obtain ⟨s3, n4, p4, h, e4⟩ := walk_cons h
  obtain ⟨s4, n5, p5, h, e5⟩ := walk_cons h
  obtain ⟨s5, n6, p6, h, e6⟩ := walk_cons h
  rw [e0, e1, e2, e3, e4, e5, e6]
  exact ⟨m, r, s1, s2, s3, s4, s5, rfl, (part_name p0).1, (part_name p1).1, (part_four p2).1, (part_four p3).1, (part_four p4).1, (part_four p5).1, (part_four p6).1⟩
theorem right6 {B : ByteArray} (h : rightD 6 B = true) : B.size ≤ 65535 ∧ (walkP B (partsL 6) 0).2 = true ∧ tot (walkP B (partsL 6) 0).1 = B.size := by
  unfold rightD at h
  simp only [Bool.and_eq_true, decide_eq_true_eq] at h
  exact ⟨h.1.1, h.1.2, h.2⟩
def soaM (B : ByteArray) : ByteArray := (soaL B).getD 0 ⟨#[]⟩
def soaR (B : ByteArray) : ByteArray := (soaL B).getD 1 ⟨#[]⟩
def soaN (B : ByteArray) (i : Nat) : Int := (beN ((soaL B).getD (i + 2) ⟨#[]⟩).data.toList : Int)
theorem split_fours : ∀ (ss : List ByteArray), (∀ s ∈ ss, s.size = 4) → ∀ (b : ByteArray) (acc : List Int), b.data.toList = (ss.map (·.data.toList)).flatten → splitL b (ss.map fun _ => 4) acc = some (acc ++ ss.map (fun s => (beN s.data.toList : Int)), ⟨#[]⟩) := by
  intro ss
  induction ss with
  | nil =>
    intro _ b acc hb
    rw [List.map_nil, List.map_nil, List.append_nil, splitL]
    congr 2
    exact list_inj hb
  | cons s ss ih =>
    intro hs b acc hb
    have h4 := hs s (List.mem_cons_self ..)
    have hl : s.data.toList.length = 4 := by rw [size_list, h4]
    have hz : 4 ≤ b.size := by rw [← size_list, hb, List.map_cons, List.flatten_cons, List.length_append, hl]; omega
    rw [List.map_cons, splitL]
    have e4 : (4 : Int).toNat = 4 := rfl
    rw [e4, if_pos hz]
    have e1 : b.data.toList.take 4 = s.data.toList := by rw [hb, List.map_cons, List.flatten_cons, List.take_left' hl]
    have e2 : (b.extract 4 b.size).data.toList = (ss.map (·.data.toList)).flatten := by rw [drop_list, hb, List.map_cons, List.flatten_cons, List.drop_left' hl]
    rw [e1, ih (fun x hx => hs x (List.mem_cons_of_mem _ hx)) _ _ e2, List.append_assoc]
    rfl
theorem four_size {s : ByteArray} (h : s.size = 4) : beN s.data.toList < 4294967296 := by
  have := beN_lt s.data.toList
  rw [size_list, h] at this
  exact this
theorem join_flat (xs : List ByteArray) : Go.Lib.join (xs.map (·.data.toList)) ([] : List UInt8) = (xs.map (·.data.toList)).flatten := by
  unfold Go.Lib.join
  generalize xs.map (·.data.toList) = l
  cases l with
  | nil => rfl
  | cons x r =>
    have := Go.Lib.join_cons x r []
    unfold Go.Lib.join Go.Lib.joinTail at this
    rw [this]
    simp
theorem split_five {s1 s2 s3 s4 s5 : ByteArray} (h1 : s1.size = 4) (h2 : s2.size = 4) (h3 : s3.size = 4) (h4 : s4.size = 4) (h5 : s5.size = 4) :
    octets_Split.f ⟨(Go.Lib.join ([s1, s2, s3, s4, s5].map (·.data.toList)) ([] : List UInt8)).toArray⟩ [4, 4, 4, 4, 4] = some ([(beN s1.data.toList : Int), (beN s2.data.toList : Int), (beN s3.data.toList : Int), (beN s4.data.toList : Int), (beN s5.data.toList : Int)], ⟨#[]⟩, 0) := by
  have hall : ∀ s ∈ [s1, s2, s3, s4, s5], s.size = 4 := by
    intro s hs
    simp only [List.mem_cons, List.not_mem_nil, or_false] at hs
    rcases hs with rfl | rfl | rfl | rfl | rfl <;> assumption
  have hb : (⟨(Go.Lib.join ([s1, s2, s3, s4, s5].map (·.data.toList)) ([] : List UInt8)).toArray⟩ : ByteArray).data.toList = ([s1, s2, s3, s4, s5].map (·.data.toList)).flatten := by rw [← join_flat]
  have hs := split_fours [s1, s2, s3, s4, s5] hall _ [] hb
  have hz : (⟨(Go.Lib.join ([s1, s2, s3, s4, s5].map (·.data.toList)) ([] : List UInt8)).toArray⟩ : ByteArray).size = 20 := by
    rw [← size_list, hb]
    simp only [List.map_cons, List.map_nil, List.flatten_cons, List.flatten_nil, List.length_append, size_list, h1, h2, h3, h4, h5, List.length_nil]
  unfold octets_Split.f
  rw [if_pos ⟨by rw [hz]; decide, by decide⟩, if_pos (by decide +kernel)]
  have hs' : splitL (⟨(Go.Lib.join ([s1, s2, s3, s4, s5].map (·.data.toList)) ([] : List UInt8)).toArray⟩ : ByteArray) [4, 4, 4, 4, 4] [] = some ([(beN s1.data.toList : Int), (beN s2.data.toList : Int), (beN s3.data.toList : Int), (beN s4.data.toList : Int), (beN s5.data.toList : Int)], ⟨#[]⟩) := hs
  rw [hs']
theorem rsoa_loop (l : List ByteArray) (m r s1 s2 s3 s4 s5 : ByteArray) (hl : l = [m, r, s1, s2, s3, s4, s5]) (h1 : s1.size = 4) (h2 : s2.size = 4) (h3 : s3.size = 4) (h4 : s4.size = 4) (h5 : s5.size = 4) (k : Nat) (hk : 20 ≤ k) :
    beadrollref10_Soa.l0 k l [] 2 = some (m, r, (beN s1.data.toList : Int), (beN s2.data.toList : Int), (beN s3.data.toList : Int), (beN s4.data.toList : Int), (beN s5.data.toList : Int), true) := by
  have e3 : wrap64 (2 + 1) = 3 := by unfold wrap64; omega
  have e4 : wrap64 (3 + 1) = 4 := by unfold wrap64; omega
  have e5 : wrap64 (4 + 1) = 5 := by unfold wrap64; omega
  have e6 : wrap64 (5 + 1) = 6 := by unfold wrap64; omega
  have e7 : wrap64 (6 + 1) = 7 := by unfold wrap64; omega
  have m1 : (beN s1.data.toList : Int) % 4294967296 = (beN s1.data.toList : Int) := by have := four_size h1; omega
  have m2 : (beN s2.data.toList : Int) % 4294967296 = (beN s2.data.toList : Int) := by have := four_size h2; omega
  have m3 : (beN s3.data.toList : Int) % 4294967296 = (beN s3.data.toList : Int) := by have := four_size h3; omega
  have m4 : (beN s4.data.toList : Int) % 4294967296 = (beN s4.data.toList : Int) := by have := four_size h4; omega
  have m5 : (beN s5.data.toList : Int) % 4294967296 = (beN s5.data.toList : Int) := by have := four_size h5; omega
  have hlen : (l.length : Int) = 7 := by rw [hl]; rfl
  have r0 : rdOf ByteArray.empty l 0 = m := by rw [hl]; rfl
  have r1 : rdOf ByteArray.empty l 1 = r := by rw [hl]; rfl
  have r2 : rdOf ByteArray.empty l 2 = s1 := by rw [hl]; rfl
  have r3 : rdOf ByteArray.empty l 3 = s2 := by rw [hl]; rfl
  have r4 : rdOf ByteArray.empty l 4 = s3 := by rw [hl]; rfl
  have r5 : rdOf ByteArray.empty l 5 = s4 := by rw [hl]; rfl
  have r6 : rdOf ByteArray.empty l 6 = s5 := by rw [hl]; rfl
  obtain ⟨k, rfl⟩ : ∃ j, k = j + 6 := ⟨k - 6, by omega⟩
  rw [beadrollref10_Soa.l0, if_pos (by decide), if_pos (by decide), if_pos (by omega), r2, number_f s1 (by omega) _ (by omega), Option.bind_some, if_pos (by decide), m1, e3]
  rw [beadrollref10_Soa.l0, if_pos (by decide), if_pos (by decide), if_pos (by omega), r3, number_f s2 (by omega) _ (by omega), Option.bind_some, if_pos (by simp), m2, e4]
  rw [beadrollref10_Soa.l0, if_pos (by decide), if_pos (by decide), if_pos (by omega), r4, number_f s3 (by omega) _ (by omega), Option.bind_some, if_pos (by simp), m3, e5]
  rw [beadrollref10_Soa.l0, if_pos (by decide), if_pos (by decide), if_pos (by omega), r5, number_f s4 (by omega) _ (by omega), Option.bind_some, if_pos (by simp), m4, e6]
  rw [beadrollref10_Soa.l0, if_pos (by decide), if_pos (by decide), if_pos (by omega), r6, number_f s5 (by omega) _ (by omega), Option.bind_some, if_pos (by simp), m5, e7]
  rw [beadrollref10_Soa.l0, if_neg (by decide), if_pos (by omega), if_pos (by omega), if_pos (by simp), if_pos (by simp), if_pos (by simp), if_pos (by simp), if_pos (by simp), r0, r1]
  rfl
theorem soa_get {B m r s1 s2 s3 s4 s5 : ByteArray} (h : soaL B = [m, r, s1, s2, s3, s4, s5]) : soaM B = m ∧ soaR B = r ∧ soaN B 0 = (beN s1.data.toList : Int) ∧ soaN B 1 = (beN s2.data.toList : Int) ∧ soaN B 2 = (beN s3.data.toList : Int) ∧ soaN B 3 = (beN s4.data.toList : Int) ∧ soaN B 4 = (beN s5.data.toList : Int) := by
  unfold soaM soaR soaN
  rw [h]
  exact ⟨rfl, rfl, rfl, rfl, rfl, rfl, rfl⟩
theorem rsoa_yes {B : ByteArray} (h : rightD 6 B = true) (k : Nat) (hk : FU + 2000 ≤ k) : beadrollref10_Soa.f k B = some (soaM B, soaR B, soaN B 0, soaN B 1, soaN B 2, soaN B 3, soaN B 4, true) := by
  obtain ⟨hB, hw, _⟩ := right6 h
  have hk20 : 20 ≤ k := Nat.le_trans (by decide) (Nat.le_trans (Nat.le_add_left 2000 FU) hk)
  obtain ⟨l, b, e1, e2, e3⟩ := rread_all 6 B (by omega) k (Nat.le_trans (Nat.add_le_add_left (by decide) FU) hk)
  have hl : l = soaL B := by
    rcases e3 with e | e
    · exact e
    · rw [e2, hw] at e; cases e.2
  obtain ⟨m, r, s1, s2, s3, s4, s5, hs, _, _, h1, h2, h3, h4, h5⟩ := soa_walk hw
  obtain ⟨g1, g2, g3, g4, g5, g6, g7⟩ := soa_get hs
  unfold beadrollref10_Soa.f
  rw [rright_d 6 B (by omega) k hk, Option.bind_some, if_pos h, e1, Option.bind_some, g1, g2, g3, g4, g5, g6, g7]
  exact rsoa_loop l m r s1 s2 s3 s4 s5 (hl.trans hs) h1 h2 h3 h4 h5 k hk20
end Go.Proofs.YtjmpckommjlnlaaGreat.RdataFacts
namespace Go.Proofs.YtjmpckommjlnlaaGreat.OctFacts
open Go.RowKit Go.Proofs.YtjmpckommjlnlaaGreat.PRd Go.Proofs.YtjmpckommjlnlaaGreatW.PrintWords Go.Proofs.YtjmpckommjlnlaaGreatW.PrintLast Go.Proofs.YtjmpckommjlnlaaGreatW.PrintMore Go.Proofs.YtjmpckommjlnlaaGreat.Given Go.Proofs.YtjmpckommjlnlaaGreat.Oct
set_option linter.unusedVariables false
set_option linter.unusedSimpArgs false
def joinL : List Int → List Int → List UInt8 → Option (List UInt8)
  | v :: vs, n :: ns, acc => if v.toNat < 256 ^ n.toNat then joinL vs ns (acc ++ beB n.toNat v.toNat) else none
  | [], [], acc => some acc
  | _, _, _ => none
theorem shr_at (v i : Nat) (h : i < 8) : (shr .u64 (v : Int) (wrap64 (8 * (i : Int)))) % 256 = ((v / 256 ^ i % 256 : Nat) : Int) := by
  unfold shr
  rw [w64_id (by omega) (by omega)]
  rw [show (8 * (i : Int)).toNat = 8 * i from by omega, show IntKind.u64.bits = 64 from rfl, Nat.min_eq_left (by omega)]
  have h2 : (2 : Int) ^ (8 * i) = ((256 ^ i : Nat) : Int) := by
    rw [show (2 : Int) ^ (8 * i) = ((2 ^ (8 * i) : Nat) : Int) from (Int.natCast_pow 2 _).symm, Nat.pow_mul]
  rw [h2, ← Int.natCast_ediv]; omega
theorem obytes_at (v : Nat) : ∀ (i k : Nat) (acc : List UInt8), i < k → acc.length + i ≤ 8 → octets_bytes.l0 k (v : Int) (bnums acc) ((i : Int) - 1) = some (bnums (acc ++ beB i v)) := by
  intro i
  induction i with
  | zero =>
    intro k acc hk ha
    obtain ⟨k, rfl⟩ : ∃ j, k = j + 1 := ⟨k - 1, by omega⟩
    rw [octets_bytes.l0, if_neg (by omega), beB, List.append_nil]
  | succ i ih =>
    intro k acc hk ha
    obtain ⟨k, rfl⟩ : ∃ j, k = j + 1 := ⟨k - 1, by omega⟩
    rw [octets_bytes.l0, show ((i + 1 : Nat) : Int) - 1 = (i : Int) from by omega, if_pos (by omega), if_pos (by rw [w64_id (by omega) (by omega)]; omega), if_pos (by rw [bnums_len]; omega), shr_at v i (by omega), w64_id (by omega) (by omega)]
    have h1 : ([((v / 256 ^ i % 256 : Nat) : Int)] : List Int) = bnums [UInt8.ofNat (v / 256 ^ i % 256)] := by unfold bnums; simp only [List.map_cons, List.map_nil, byte_mod]
    rw [h1, ← bnums_app]
    rw [ih k _ (by omega) (by simp; omega), beB_front]; simp
theorem obytes_f (n v k : Nat) (hn : n ≤ 8) (hk : 9 ≤ k) : octets_bytes.f k (v : Int) (n : Int) = some (bnums (beB n v)) := by
  unfold octets_bytes.f
  rw [w64_id (by omega) (by omega)]
  exact obytes_at v n k [] (by omega) (by simp; omega)
theorem owidth_f (n : Int) : octets_width.f n = some (isWidth n) := by
  have := rwidth_f n
  exact this
theorem most1 : octets_most.f 1 = some 255 := by kernel_rfl
theorem most2 : octets_most.f 2 = some 65535 := by kernel_rfl
theorem most4 : octets_most.f 4 = some 4294967295 := by kernel_rfl
theorem most8 : octets_most.f 8 = some 18446744073709551615 := by kernel_rfl
theorem most_f (n : Nat) (h : isWidth (n : Int) = true) : octets_most.f (n : Int) = some ((256 ^ n - 1 : Nat) : Int) := by
  have := (width_iff _).mp h
  have : n = 1 ∨ n = 2 ∨ n = 4 ∨ n = 8 := by omega
  obtain rfl | rfl | rfl | rfl := this
  · exact most1
  · exact most2
  · exact most4
  · exact most8
theorem whole_at (ws : List Int) (hl : ws.length < 17592186044416) : ∀ (d i k : Nat), i + d = ws.length → d < k → octets_whole.l0 k ws (ws.length : Int) (i : Int) = some ((ws.drop i).all isWidth) := by
  intro d
  induction d with
  | zero =>
    intro i k hi hk
    obtain ⟨k, rfl⟩ : ∃ j, k = j + 1 := ⟨k - 1, by omega⟩
    rw [octets_whole.l0, if_neg (by omega), List.drop_of_length_le (by omega)]; rfl
  | succ d ih =>
    intro i k hi hk
    obtain ⟨k, rfl⟩ : ∃ j, k = j + 1 := ⟨k - 1, by omega⟩
    rw [octets_whole.l0, if_pos (by omega), if_pos (by omega), if_pos (by omega), rd_at ws i (by omega), owidth_f]
    rw [List.drop_eq_getElem_cons (by omega : i < ws.length), List.all_cons]
    show (if isWidth ws[i] = true then _ else _) = _
    by_cases hw : isWidth ws[i] = true
    · rw [if_pos hw, w64_id (by omega) (by omega), hw, Bool.true_and]
      exact ih (i + 1) k (by omega) (by omega)
    · rw [if_neg hw, Bool.eq_false_iff.mpr hw, Bool.false_and]
theorem whole_f (ws : List Int) (k : Nat) (hl : ws.length < 17592186044416) (hk : ws.length < k) : octets_whole.f k ws = some (ws.all isWidth) :=
  whole_at ws hl ws.length 0 k (by omega) hk
def joinR (vs ws : List Int) : ByteArray × Int :=
  if ws.all isWidth = true ∧ vs.length = ws.length then
    match joinL vs ws [] with
    | some l => (arr l, 0)
    | none => (⟨#[]⟩, 1)
  else (⟨#[]⟩, 1)
theorem join_at (vs ws : List Int) (hl : ws.length ≤ 40) (he : vs.length = ws.length) (hw : ∀ n ∈ ws, isWidth n = true) (hv : ∀ v ∈ vs, 0 ≤ v ∧ v ≤ 18446744073709551615) :
    ∀ (d i k : Nat) (acc : List UInt8), i + d = ws.length → d + 10 ≤ k → acc.length ≤ 8 * i → octets_Join.l0 k vs (bnums acc) ws (ws.length : Int) (i : Int) = some (match joinL (vs.drop i) (ws.drop i) acc with | some l => (arr l, 0) | none => (⟨#[]⟩, 1)) := by
  intro d
  induction d with
  | zero =>
    intro i k acc hi hk ha
    obtain ⟨k, rfl⟩ : ∃ j, k = j + 1 := ⟨k - 1, by omega⟩
    rw [octets_Join.l0, if_neg (by omega), List.drop_of_length_le (by omega), List.drop_of_length_le (by omega), joinL, str_bnums]
  | succ d ih =>
    intro i k acc hi hk ha
    obtain ⟨k, rfl⟩ : ∃ j, k = j + 1 := ⟨k - 1, by omega⟩
    rw [octets_Join.l0, if_pos (by omega), if_pos (by omega), if_pos (by omega), if_pos (by omega), rd_at ws i (by omega), rd_at vs i (by omega)]
    rw [List.drop_eq_getElem_cons (by omega : i < ws.length), List.drop_eq_getElem_cons (by omega : i < vs.length), joinL]
    have hwi := hw ws[i] (List.getElem_mem _)
    have hvi := hv (vs[i]'(by omega)) (List.getElem_mem _)
    generalize ws[i] = n at hwi
    generalize vs[i]'(by omega) = v at hvi
    have hn := wid8 hwi
    obtain ⟨m, rfl⟩ := Int.eq_ofNat_of_zero_le (show 0 ≤ n by omega)
    obtain ⟨u, rfl⟩ := Int.eq_ofNat_of_zero_le (show 0 ≤ v by omega)
    rw [most_f m hwi, Int.toNat_natCast, Int.toNat_natCast]
    show (if (u : Int) > _ then _ else _) = _
    have hp : 0 < 256 ^ m := Nat.pow_pos (by omega)
    by_cases hu : u < 256 ^ m
    · rw [if_neg (by omega), if_pos hu, obytes_f m u k (by omega) (by omega)]
      show (if _ then _ else _) = _
      rw [← bnums_app, if_pos (by simp only [bnums_len, beB_len]; omega), w64_id (by omega) (by omega)]
      exact ih (i + 1) k _ (by omega) (by omega) (by simp only [List.length_append, beB_len]; omega)
    · rw [if_pos (by omega), if_neg hu]
theorem all_mem {ws : List Int} (h : ws.all isWidth = true) : ∀ n ∈ ws, isWidth n = true := fun n hn => List.all_eq_true.mp h n hn
theorem join_f (vs ws : List Int) (k : Nat) (hl : ws.length ≤ 40) (hl2 : vs.length ≤ 40) (hv : ∀ v ∈ vs, 0 ≤ v ∧ v ≤ 18446744073709551615) (hk : 60 ≤ k) : octets_Join.f k vs ws = some (joinR vs ws) := by
  unfold octets_Join.f joinR
  rw [whole_f ws k (by omega) (by omega)]
  obtain ⟨k, rfl⟩ : ∃ j, k = j + 1 := ⟨k - 1, by omega⟩
  show (if ws.all isWidth = true then _ else _) = _
  by_cases hw : ws.all isWidth = true
  · rw [if_pos hw]
    by_cases he : vs.length = ws.length
    · rw [if_pos ⟨hw, he⟩, octets_Join.j0, if_neg (by simp [he])]
      exact join_at vs ws hl he (all_mem hw) hv ws.length 0 k [] (by omega) (by omega) (by simp)
    · rw [if_neg (fun h => he h.2), octets_Join.j0, if_pos (by simp; omega)]
  · rw [if_neg hw, if_neg (fun h => hw h.1), octets_Join.j0, if_pos rfl]
end Go.Proofs.YtjmpckommjlnlaaGreat.OctFacts
namespace Go.Proofs.YtjmpckommjlnlaaGreat.RdataFacts
open Go.Proofs
open Go.RowKit Go.Proofs.YtjmpckommjlnlaaGreat.PRd Go.Proofs.YtjmpckommjlnlaaGreatW.PrintWords Go.Proofs.YtjmpckommjlnlaaGreatW.PrintLast Go.Proofs.YtjmpckommjlnlaaGreatW.PrintMore Go.Proofs.YtjmpckommjlnlaaGreat.Given Go.Proofs.YtjmpckommjlnlaaGreat.Oct Go.Proofs.YtjmpckommjlnlaaGreat.Name Go.Proofs.YtjmpckommjlnlaaGreat.PackFacts Go.Proofs.YtjmpckommjlnlaaGreat.Rdata
open Go.Proofs.YtjmpckommjlnlaaGreat.OctFacts (w64_id u64_id bt_list rdo_at number_f rd_at joinR joinL)
set_option linter.unusedVariables false
set_option linter.unusedSimpArgs false
theorem beB1 (v : Nat) : beB 1 v = [UInt8.ofNat (v % 256)] := by rw [beB, beB]; rfl
theorem name_len : ∀ l : List ByteArray, l.length < (nameB l).size
  | [] => by show 0 < (nameB []).size; exact Nat.zero_lt_one
  | s :: l => by
    have h := name_len l
    have e : nameB (s :: l) = pieceB 1 s ++ nameB l := rfl
    rw [e, ByteArray.size_append, List.length_cons, ← size_list (pieceB 1 s), piece_list, beB1, List.length_append, List.length_singleton]
    omega
end Go.Proofs.YtjmpckommjlnlaaGreat.RdataFacts
namespace Go.Proofs.YtjmpckommjlnlaaGreat.Rdata
open Go.RowKit Go.Proofs.YtjmpckommjlnlaaGreatW.PrintWords Go.Proofs.YtjmpckommjlnlaaGreatW.PrintLast Go.Proofs.YtjmpckommjlnlaaGreatW.PrintMore Go.Proofs.YtjmpckommjlnlaaGreat.Given Go.Proofs.YtjmpckommjlnlaaGreat.PRd Go.Proofs.YtjmpckommjlnlaaGreat.Touching Go.Proofs.YtjmpckommjlnlaaGreat.RdataFacts Go.Proofs.YtjmpckommjlnlaaGreat.Oct
set_option linter.unusedVariables false
set_option linter.unusedSimpArgs false
def StrsSt (lo B : Nat) (d : List (Int × ByteArray)) (F : Nat → Prop) (W : World) : Prop :=
  lo ≤ W.heap.size ∧ (∀ k, F k → lo ≤ k ∧ k < W.heap.size) ∧ F B ∧ ∃ v, W.heap[B]? = some (.cells #[v] 45 (0, 0)) ∧ Kd.R Kd.string 9 W lo (fun k => F k ∧ k ≠ B) v (d.map (·.2))
set_option maxHeartbeats 1000000 in
set_option maxRecDepth 100000 in
theorem strs_any (lo B : Nat) (d : List (Int × ByteArray)) (F : Nat → Prop) (W : World) (kind : Int) (s : ByteArray) (hd : d.length < 100) (h : StrsSt lo B d F W) :
    Calls Tryz.prog 122 (#[.int .i64 kind, .string s] ++ #[.pointer (some ⟨B, 0, none⟩)]) W fun e w' => e = .returned (.tuple #[]) ∧ ∃ F', StrsSt lo B (d ++ [(kind, s)]) F' w' ∧ Tch F W w' ∧ ∀ k, F' k → F k ∨ W.heap.size ≤ k := by
  obtain ⟨hlo, hF, hB, v, hb, hR⟩ := h
  have hc : W.cell? ⟨B, 0, none⟩ = some v := blk_cell hb 0
  have hf := blk_frozen hb 0
  have HF := Lib.hid hF
  have HB := Lib.hid hB
  have HBK := Lib.hid hb
  have HR := Lib.hid hR
  have hlen : (d.map (·.2)).length < 100 := by simpa using hd
  have HLO := Lib.hid hlo
  obtain ⟨xs, hxs⟩ : ∃ xs, d.map (·.2) = xs := ⟨_, rfl⟩
  rw [hxs] at HR hlen
  have HXS := Lib.hid hxs
  clear hF hB hb hR hxs hlo
  go_enter Tryz.func122, Tryz.ntmps122
  have hvB : some B ≠ v.ownBlock := fun e => (HR.out.1 B e.symm).2 rfl
  have HVB := Lib.hid hvB
  clear hvB
  go_wp2_with ((with_reducible refine gate_builtin (b := .append) (xs := #[.tmp 5, .tmp 7]) rfl ?_); at_builtin; refine Kd.R_append Kd.string (w0 := W) lo rfl (.tmp 5) (.tmp 7) 45 9 (.string ⟨#[]⟩) 16 rfl Tryz.underlying45 info9 rfl (by decide) (by omega) v xs s [.string s] (fun k => F k ∧ k ≠ B ∨ W.heap.size ≤ k) (fun _ => False) rfl rfl ?aP (fun _ hk => hk.elim) ?aF ?aO ?aB ?aS ?aL ?_; (case aP => exact rfl); (case aF => exact (fun k hk => .inr hk)); (case aO => exact Kd.R_mono HR.out fun k hk => .inl hk); (case aB => exact Below.refl lo W); (case aS => exact HLO.out); (case aL => omega); intro v1 w1 ho hb1 hg hat; obtain ⟨A2, c2, rfl⟩ := Kd.R_slice ho; rw [List.length_append, List.length_singleton] at ho; have HBK1 := Lib.hid (blk_grown HBK.out hg HVB.out); have hc1 : w1.cell? ⟨B, 0, none⟩ = some v := blk_cell HBK1.out 0; have hf1 := blk_frozen HBK1.out 0; have HO := Lib.hid ho; have HG := Lib.hid hg; clear ho hg hb1 hat)
  go_wp2_with fail
  go_end0
  have hsz := HG.out.size
  have hput : (w1.setCell ⟨B, 0, none⟩ (.slice A2 (xs.length + 1) c2)).heap[B]? = some (.cells #[.slice A2 (xs.length + 1) c2] 45 (0, 0)) := blk_put HBK1.out 0 _ rfl
  refine ⟨rfl, fun k => F k ∨ W.heap.size ≤ k ∧ k < w1.heap.size, ⟨?_, fun k hk => ?_, .inl HB.out, _, hput, ?_⟩, ?_, fun k hk => hk.imp id And.left⟩
  · have := HLO.out; have := HG.out.size; simp [World.setCell]; omega
  · have hs : (w1.setCell ⟨B, 0, none⟩ (.slice A2 (xs.length + 1) c2)).heap.size = w1.heap.size := by simp [World.setCell]
    rw [hs]
    have := HLO.out
    rcases hk with hk | hk
    · have := HF.out k hk; omega
    · omega
  · rw [List.map_append, HXS.out]
    refine R_touch (S := fun k => k = B) (Kd.R_mono (Kd.R_bound HO.out) fun k hk => ?_) (Tch.setCell (S := fun k => k = B) (p := ⟨B, 0, none⟩) rfl _) fun k hk _ => hk.2
    have hBl := (HF.out B HB.out).2
    rcases hk.1 with h1 | h1
    · exact ⟨.inl h1.1, h1.2⟩
    · exact ⟨.inr ⟨h1, hk.2.2.1⟩, by omega⟩
  · exact (Tch.of_grown HG.out fun k hk => (HR.out.1 k hk).1).trans (Tch.setCell (S := F) (p := ⟨B, 0, none⟩) HB.out _) fun _ _ h => h
theorem strs (lo B : Nat) : Taker 122 #[.pointer (some ⟨B, 0, none⟩)] (StrsSt lo B) where
  rest := fun d F W W' h hb => by
    obtain ⟨h1, h2, h3, v, h4, h5⟩ := h
    exact ⟨F, ⟨Nat.le_trans h1 hb.size, fun k hk => ⟨(h2 k hk).1, Nat.lt_of_lt_of_le (h2 k hk).2 hb.size⟩, h3, v, (hb.block B (blk_lt h4)).trans h4, Kd.R_below h5 hb⟩, fun k hk => .inl hk⟩
  lt := fun d F W k h hk => (h.2.1 k hk).2
  take := fun d F W kind s _ hd h => strs_any lo B d F W kind s hd h
  enters := enters_of Tryz.func122 (by kernel_rfl) rfl
end Go.Proofs.YtjmpckommjlnlaaGreat.Rdata
namespace Go.Proofs.YtjmpckommjlnlaaGreat.Rdata
open Go.RowKit Go.Proofs.YtjmpckommjlnlaaGreatW.PrintWords Go.Proofs.YtjmpckommjlnlaaGreatW.PrintLast Go.Proofs.YtjmpckommjlnlaaGreatW.PrintMore Go.Proofs.YtjmpckommjlnlaaGreat.Given Go.Proofs.YtjmpckommjlnlaaGreat.PRd Go.Proofs.YtjmpckommjlnlaaGreat.Touching Go.Proofs.YtjmpckommjlnlaaGreat.RdataFacts Go.Proofs.YtjmpckommjlnlaaGreat.Oct
set_option linter.unusedVariables false
set_option linter.unusedSimpArgs false
def soaL (B : ByteArray) : List ByteArray := (walkP B (partsL 6) 0).1.map (·.2)
set_option maxHeartbeats 2000000 in
set_option maxRecDepth 100000 in
theorem soa_bad (B : ByteArray) (w : World) (hs : B.size ≤ 9223372036854775807) (hr : rightD 6 B = false) :
    Calls Tryz.prog 70 #[.string B] w fun e w' => e = .returned (.tuple #[.agg #[.string ⟨#[]⟩, .string ⟨#[]⟩, .int .u32 0, .int .u32 0, .int .u32 0, .int .u32 0, .int .u32 0], .int .i64 2]) ∧ Below w.heap.size w w' := by
  have HR := Lib.hid (fun w => right_any 6 B w hs)
  have HF := Lib.hid hr
  clear hr
  have hu49 := Tryz.underlying38
  go_enter Tryz.func70, Tryz.ntmps70
  go_wp2_with fail
  refine (HR.out _).mono ?_
  rintro e w1 ⟨rfl, hb⟩
  rw [HF.out]
  have hlt : ∀ o : Obj, w.heap.size < (w.alloc o).heap.size := fun o => by show _ < (w.heap.push _).size; rw [Array.size_push]; exact Nat.lt_succ_self _
  have hb0 : w1.heap[w.heap.size]? = some (.cells #[.string ⟨#[]⟩, .string ⟨#[]⟩, .int .u32 0, .int .u32 0, .int .u32 0, .int .u32 0, .int .u32 0] 38 (0, 0)) := (hb.block _ (hlt _)).trans (heap_alloc_new w _)
  have HBEL := Lib.hid (below_then ((Below.refl _ w).alloc (Nat.le_refl _) _) (Nat.le_of_lt (hlt _)) hb)
  have c0 := blk_cell hb0 0
  have c1 := blk_cell hb0 1
  have c2 := blk_cell hb0 2
  have c3 := blk_cell hb0 3
  have c4 := blk_cell hb0 4
  have c5 := blk_cell hb0 5
  have c6 := blk_cell hb0 6
  have f0 := blk_frozen hb0 0
  have f1 := blk_frozen hb0 1
  have f2 := blk_frozen hb0 2
  have f3 := blk_frozen hb0 3
  have f4 := blk_frozen hb0 4
  have f5 := blk_frozen hb0 5
  have f6 := blk_frozen hb0 6
  have HB0 := Lib.hid hb0
  clear hb hb0 hlt
  simp at c0 c1 c2 c3 c4 c5 c6
  go_wp2_with fail
  have hput := blk_put (blk_put (blk_put (blk_put (blk_put (blk_put (blk_put HB0.out 0 (.string ⟨#[]⟩) rfl) 1 (.string ⟨#[]⟩) rfl) 2 (.int .u32 0) rfl) 3 (.int .u32 0) rfl) 4 (.int .u32 0) rfl) 5 (.int .u32 0) rfl) 6 (.int .u32 0) rfl
  refine bodyPost_ret (results_ct rfl _ _ w.heap.size 38 #[.string ⟨#[]⟩, .string ⟨#[]⟩, .int .u32 0, .int .u32 0, .int .u32 0, .int .u32 0, .int .u32 0] (0, 0) _ rfl hput hu49 rfl (by kernel_rfl)) rfl ?_
  exact ⟨rfl, (((((((HBEL.out.setCell (p := ⟨w.heap.size, 0, none⟩) (Nat.le_refl _) (.string ⟨#[]⟩)).setCell (p := ⟨w.heap.size, 1, none⟩) (Nat.le_refl _) (.string ⟨#[]⟩)).setCell (p := ⟨w.heap.size, 2, none⟩) (Nat.le_refl _) (.int .u32 0)).setCell (p := ⟨w.heap.size, 3, none⟩) (Nat.le_refl _) (.int .u32 0)).setCell (p := ⟨w.heap.size, 4, none⟩) (Nat.le_refl _) (.int .u32 0)).setCell (p := ⟨w.heap.size, 5, none⟩) (Nat.le_refl _) (.int .u32 0)).setCell (p := ⟨w.heap.size, 6, none⟩) (Nat.le_refl _) (.int .u32 0))⟩
end Go.Proofs.YtjmpckommjlnlaaGreat.Rdata
namespace Go.Proofs.YtjmpckommjlnlaaGreat.Rdata
open Go.RowKit Go.Proofs.YtjmpckommjlnlaaGreatW.PrintWords Go.Proofs.YtjmpckommjlnlaaGreatW.PrintLast Go.Proofs.YtjmpckommjlnlaaGreatW.PrintMore Go.Proofs.YtjmpckommjlnlaaGreat.Given Go.Proofs.YtjmpckommjlnlaaGreat.PRd Go.Proofs.YtjmpckommjlnlaaGreat.Touching Go.Proofs.YtjmpckommjlnlaaGreat.RdataFacts Go.Proofs.YtjmpckommjlnlaaGreat.Oct
set_option linter.unusedVariables false
set_option linter.unusedSimpArgs false
set_option maxHeartbeats 8000000 in
set_option maxRecDepth 100000 in
theorem soa_good (B : ByteArray) (w : World) (hr : rightD 6 B = true) (m r s1 s2 s3 s4 s5 : ByteArray) (he : soaL B = [m, r, s1, s2, s3, s4, s5]) (h1 : s1.size = 4) (h2 : s2.size = 4) (h3 : s3.size = 4) (h4 : s4.size = 4) (h5 : s5.size = 4) :
    Calls Tryz.prog 70 #[.string B] w fun e w' => e = .returned (.tuple #[.agg #[.string m, .string r, .int .u32 (beN s1.data.toList : Int), .int .u32 (beN s2.data.toList : Int), .int .u32 (beN s3.data.toList : Int), .int .u32 (beN s4.data.toList : Int), .int .u32 (beN s5.data.toList : Int)], .int .i64 0]) ∧ Below w.heap.size w w' := by
  have hs := (right6 hr).1
  have HR := Lib.hid (fun w => right_any 6 B w (by omega))
  have HF := Lib.hid hr
  have hsz := walk_size B (by omega) (partsL 6) 0
  have hw := walk_f B (by omega) (FU + 1) (Nat.le_succ _) (partsL 6) 0 (parts_kind 6) (Nat.zero_le _)
  have HK := Lib.hid (parts_f 6 (FU + 1) (Nat.succ_le_succ (Nat.zero_le _)))
  have HSP := Lib.hid (split_five h1 h2 h3 h4 h5)
  have HZ := Lib.hid (show (Go.Lib.join ([s1, s2, s3, s4, s5].map (·.data.toList)) ([] : List UInt8)).length ≤ 140737488355328 from by
    rw [join_flat]
    simp only [List.map_cons, List.map_nil, List.flatten_cons, List.flatten_nil, List.length_append, size_list, h1, h2, h3, h4, h5, List.length_nil]
    decide)
  have m1 : (beN s1.data.toList : Int) % 4294967296 = (beN s1.data.toList : Int) := by have := four_size h1; omega
  have m2 : (beN s2.data.toList : Int) % 4294967296 = (beN s2.data.toList : Int) := by have := four_size h2; omega
  have m3 : (beN s3.data.toList : Int) % 4294967296 = (beN s3.data.toList : Int) := by have := four_size h3; omega
  have m4 : (beN s4.data.toList : Int) % 4294967296 = (beN s4.data.toList : Int) := by have := four_size h4; omega
  have m5 : (beN s5.data.toList : Int) % 4294967296 = (beN s5.data.toList : Int) := by have := four_size h5; omega
  unfold soaL at he
  obtain ⟨⟨ps, b⟩, hp⟩ : ∃ x, walkP B (partsL 6) 0 = x := ⟨_, rfl⟩
  rw [hp] at hw hsz he
  have HE := Lib.hid he
  have HW := Lib.hid hw
  have HSZ := Lib.hid hsz.1
  have HL7 := Lib.hid (Nat.le_trans hsz.2 (parts_len 6))
  have HL := Lib.hid (parts_len 6)
  clear hr hw hsz hp he h1 h2 h3 h4 h5 hs
  have hu49 := Tryz.underlying38
  go_enter Tryz.func70, Tryz.ntmps70
  go_wp2_with fail
  refine (HR.out _).mono ?_
  rintro e w1 ⟨rfl, hb⟩
  rw [HF.out]
  have hlt : ∀ (w : World) (o : Obj), w.heap.size < (w.alloc o).heap.size := fun w o => by show _ < (w.heap.push _).size; rw [Array.size_push]; exact Nat.lt_succ_self _
  have HLT := Lib.hid hlt
  have HB0 := Lib.hid ((hb.block _ (hlt _ _)).trans (heap_alloc_new w _))
  have HBEL := Lib.hid (below_then ((Below.refl _ w).alloc (Nat.le_refl _) _) (Nat.le_of_lt (hlt _ _)) hb)
  have HSW := Lib.hid (Nat.lt_of_lt_of_le (hlt w _) hb.size)
  clear hb hlt
  go_wp2_with fail
  refine (walk_any (strs w1.heap.size w1.heap.size) (FU + 1) B 0 (B.size : Int) 6 (partsL 6) HK.out [] ps b HW.out (fun k => k = w1.heap.size) _ ⟨Nat.le_of_lt (HLT.out _ _), fun k hk => by rw [hk]; exact ⟨Nat.le_refl _, HLT.out _ _⟩, rfl, _, heap_alloc_new w1 _, ?_⟩ (by have := HL.out; omega) HSZ.out (by have := HL7.out; simp; omega)).mono ?_
  · exact ⟨fun k hk => by simp [Value.ownBlock] at hk, [], ⟨by simp, .inl ⟨rfl, rfl⟩⟩, Reps.none _ _⟩
  rintro e w2 ⟨rfl, F', hst, ht, _⟩
  obtain ⟨hlo, hFb, hBF, v, hb2, hR2⟩ := hst
  rw [List.nil_append, HE.out] at hR2
  obtain ⟨g, c, rfl, hbg, hgl, _⟩ := Kd.R_form hR2 (by simp)
  obtain ⟨_, hc7, hC⟩ := Kd.R_reads' hR2
  have hbx : w2.cell? ⟨w1.heap.size, 0, none⟩ = some (.slice (some ⟨g, 0, none⟩) 7 c) := (blk_cell hb2 0).trans rfl
  have kk : ∀ (i : Nat) (x : ByteArray), [m, r, s1, s2, s3, s4, s5][i]? = some x → w2.cell? ⟨g, i, none⟩ = some (.string x) := fun i x hx => by
    have hi : i < 7 := by obtain ⟨h, _⟩ := List.getElem?_eq_some_iff.mp hx; exact h
    obtain ⟨ad, e, h⟩ := Kd.at_string hC (i : Int) (by omega) (by show (i : Int) < ((7 : Nat) : Int); omega)
    cases e
    rw [Int.toNat_natCast] at h
    refine Eq.trans ?_ (h.trans ?_)
    · exact congrArg w2.cell? (by simp [Addr.add])
    · unfold rdOf
      rw [Int.toNat_natCast, List.getD_eq_getElem?_getD, hx]; rfl
  have k0 := kk 0 m rfl
  have k1 := kk 1 r rfl
  have HJ := Lib.hid (Shelf.join_any g 2 (c - 2) [s1, s2, s3, s4, s5] ⟨#[]⟩ w2 (fun j x hx => kk (2 + j) x (by rw [← hx, Nat.add_comm 2 j]; rfl)) hgl (by simp) (by show 5 ≤ c - 2; have : 7 ≤ c := hc7; omega) HZ.out)
  have hcc : (7 : Nat) ≤ c := hc7
  have HW2 := Lib.hid (show Below w.heap.size w w2 from by
    have h0 : Below w1.heap.size w1 (w1.alloc (.cells #[.slice none 0 0] 45)) := (Below.refl _ w1).alloc (Nat.le_refl _) _
    exact below_then HBEL.out HBEL.out.size (h0.trans (ht.below h0.size fun k hk => by rw [hk]; exact Nat.le_refl _)))
  have HG := Lib.hid hgl
  have HBX := Lib.hid hb2
  have HBS := Lib.hid (blk_lt hb2)
  have HB0' := Lib.hid ((ht.block w.heap.size (Nat.lt_trans HSW.out (HLT.out w1 _)) (fun h => Nat.ne_of_lt HSW.out h)).trans ((by have := HSW.out; exact Array.getElem?_push_lt this |>.trans (Array.getElem?_eq_getElem this).symm : (w1.alloc (.cells #[.slice none 0 0] 45)).heap[w.heap.size]? = w1.heap[w.heap.size]?).trans HB0.out))
  clear ht hlo hFb hBF hb2 hR2 hbg hgl hc7 hC kk HB0 HBEL
  go_wp2_with fail
  refine HJ.out.mono ?_
  rintro e w3 ⟨rfl, hb3⟩
  have HB3 := Lib.hid hb3
  obtain ⟨J, hJ⟩ : ∃ J, (⟨(Go.Lib.join ([s1, s2, s3, s4, s5].map (·.data.toList)) (⟨#[]⟩ : ByteArray).data.toList).toArray⟩ : ByteArray) = J := ⟨_, rfl⟩
  rw [hJ]
  have hsp := HSP.out
  rw [show (⟨(Go.Lib.join ([s1, s2, s3, s4, s5].map (·.data.toList)) ([] : List UInt8)).toArray⟩ : ByteArray) = J from hJ] at hsp
  have HSJ := Lib.hid hsp
  clear hb3 hJ HJ hsp
  go_wp2_with (first | ((with_reducible refine gate_dst (N := 21) rfl ?_); refine Kd.R_lit (Kd.int .i64) _ 3 ?hg (N := 21) ?hd (xs := ([4, 4, 4, 4, 4] : List Int)) (inner := [.int .i64 4, .int .i64 4, .int .i64 4, .int .i64 4, .int .i64 4]) (ok := fun _ => True) (okp := fun _ => True) ?hr ?hp (fun _ hk => hk) trivial (Below.refl _ _) (Nat.le_refl _) (by simp) ?_; (case hd => rfl); (case hg => rfl); (case hr => first | (go_simp; done) | (go_simp; rfl)); (case hp => exact (Reps.one (show Kd.M (Kd.int .i64) _ _ _ 4 [.int .i64 4] from rfl) (Reps.one (show Kd.M (Kd.int .i64) _ _ _ 4 [.int .i64 4] from rfl) (Reps.one (show Kd.M (Kd.int .i64) _ _ _ 4 [.int .i64 4] from rfl) (Reps.one (show Kd.M (Kd.int .i64) _ _ _ 4 [.int .i64 4] from rfl) (Reps.one (show Kd.M (Kd.int .i64) _ _ _ 4 [.int .i64 4] from rfl) (Reps.none _ _))))))); intro v21 w4 ho hb hg_ hnew_; clear hg_ hnew_; obtain ⟨A21, c21, rfl⟩ := Kd.R_slice ho; have n0_ := Lib.hid ho; have n1_ := Lib.hid hb; clear ho hb; have HO21 := n0_; have HB4 := n1_; clear n0_ n1_))
  obtain ⟨_, hcl21, hC21⟩ := Kd.R_reads' HO21.out
  refine (octets_Split.calls J A21 c21 [4, 4, 4, 4, 4] _ _ _ w4 hC21 hcl21 HSJ.out).mono ?_
  rintro e w5 ⟨v5, rfl, hv5, hb5⟩
  obtain ⟨g5, c5, rfl, hbg5, hgl5, _⟩ := Kd.R_form hv5 (by simp)
  obtain ⟨_, hc5, hC5⟩ := Kd.R_reads' hv5
  have hB35 : Below w2.heap.size w2 w5 := below_then HB3.out HB3.out.size (below_then HB4.out HB4.out.size hb5)
  have hbx5 : w5.cell? ⟨w1.heap.size, 0, none⟩ = some (.slice (some ⟨g, 0, none⟩) 7 c) := (hB35.cell (p := ⟨w1.heap.size, 0, none⟩) HBS.out).trans hbx
  have k05 : w5.cell? ⟨g, 0, none⟩ = some (.string m) := (hB35.cell (p := ⟨g, 0, none⟩) HG.out).trans k0
  have k15 : w5.cell? ⟨g, 1, none⟩ = some (.string r) := (hB35.cell (p := ⟨g, 1, none⟩) HG.out).trans k1
  have nn : ∀ (i : Nat) (x : Int), [(beN s1.data.toList : Int), (beN s2.data.toList : Int), (beN s3.data.toList : Int), (beN s4.data.toList : Int), (beN s5.data.toList : Int)][i]? = some x → w5.cell? ⟨g5, i, none⟩ = some (.int .u64 x) := fun i x hx => by
    have hi : i < 5 := by obtain ⟨h, _⟩ := List.getElem?_eq_some_iff.mp hx; exact h
    obtain ⟨ad, e, h⟩ := Kd.at_int hC5 (i : Int) (by omega) (by show (i : Int) < ((5 : Nat) : Int); omega)
    cases e
    rw [Int.toNat_natCast] at h
    refine Eq.trans ?_ (h.trans ?_)
    · exact congrArg w5.cell? (by simp [Addr.add])
    · unfold rd
      rw [Int.toNat_natCast, List.getD_eq_getElem?_getD, hx]; rfl
  obtain ⟨n1, hn1⟩ : ∃ n, (beN s1.data.toList : Int) = n := ⟨_, rfl⟩
  obtain ⟨n2, hn2⟩ : ∃ n, (beN s2.data.toList : Int) = n := ⟨_, rfl⟩
  obtain ⟨n3, hn3⟩ : ∃ n, (beN s3.data.toList : Int) = n := ⟨_, rfl⟩
  obtain ⟨n4, hn4⟩ : ∃ n, (beN s4.data.toList : Int) = n := ⟨_, rfl⟩
  obtain ⟨n5, hn5⟩ : ∃ n, (beN s5.data.toList : Int) = n := ⟨_, rfl⟩
  rw [hn1, hn2, hn3, hn4, hn5] at nn
  rw [hn1] at m1
  rw [hn2] at m2
  rw [hn3] at m3
  rw [hn4] at m4
  rw [hn5] at m5
  have q0 := nn 0 n1 rfl
  have q1 := nn 1 n2 rfl
  have q2 := nn 2 n3 rfl
  have q3 := nn 3 n4 rfl
  have q4 := nn 4 n5 rfl
  have hb0 := (hB35.block w.heap.size (Nat.lt_of_lt_of_le (Nat.lt_trans HSW.out HBS.out) (Nat.le_refl _))).trans HB0'.out
  have HBF := Lib.hid (below_then HW2.out HW2.out.size hB35)
  have HN := Lib.hid (And.intro hn1 (And.intro hn2 (And.intro hn3 (And.intro hn4 hn5))))
  clear hv5 hb5 hbg5 hgl5 hC5 hB35 nn HO21 HB4 hcl21 hC21 HB3 hn1 hn2 hn3 hn4 hn5 hbx k0 k1
  have u1 : IntKind.u32.wrap n1 = n1 := by simp only [IntKind.wrap, IntKind.bits, IntKind.signed]; simpa using m1
  have u2 : IntKind.u32.wrap n2 = n2 := by simp only [IntKind.wrap, IntKind.bits, IntKind.signed]; simpa using m2
  have u3 : IntKind.u32.wrap n3 = n3 := by simp only [IntKind.wrap, IntKind.bits, IntKind.signed]; simpa using m3
  have u4 : IntKind.u32.wrap n4 = n4 := by simp only [IntKind.wrap, IntKind.bits, IntKind.signed]; simpa using m4
  have u5 : IntKind.u32.wrap n5 = n5 := by simp only [IntKind.wrap, IntKind.bits, IntKind.signed]; simpa using m5
  have HB0 := Lib.hid hb0
  have hcc5 : (5 : Nat) ≤ c5 := hc5
  clear hb0 hc5
  clear HSP HSJ HZ HW HSZ HL7 HL HE HK HR HF m1 m2 m3 m4 m5
  go_wp2_with fail
  go_still_tail 27, (by kernel_rfl)
  change wpList _ _ _ _ _ w5.drew
  have hb0 : w5.drew.heap[w.heap.size]? = _ := HB0.out
  have HBG := Lib.hid (show Below w.heap.size w w5.drew from below_drew HBF.out)
  clear HB0 HBF hbx5 k05 k15 q0 q1 q2 q3 q4
  generalize w5.drew = w6 at hb0 HBG ⊢
  have c0 := blk_cell hb0 0
  have c1 := blk_cell hb0 1
  have c2 := blk_cell hb0 2
  have c3 := blk_cell hb0 3
  have c4 := blk_cell hb0 4
  have c5' := blk_cell hb0 5
  have c6 := blk_cell hb0 6
  have f0 := blk_frozen hb0 0
  have f1 := blk_frozen hb0 1
  have f2 := blk_frozen hb0 2
  have f3 := blk_frozen hb0 3
  have f4 := blk_frozen hb0 4
  have f5 := blk_frozen hb0 5
  have f6 := blk_frozen hb0 6
  have HB0 := Lib.hid hb0
  clear hb0
  simp at c0 c1 c2 c3 c4 c5' c6
  go_wp2_with fail
  have hput := blk_put (blk_put (blk_put (blk_put (blk_put (blk_put (blk_put HB0.out 0 (.string m) rfl) 1 (.string r) rfl) 2 (.int .u32 n1) rfl) 3 (.int .u32 n2) rfl) 4 (.int .u32 n3) rfl) 5 (.int .u32 n4) rfl) 6 (.int .u32 n5) rfl
  refine bodyPost_ret (results_ct rfl _ _ w.heap.size 38 #[.string m, .string r, .int .u32 n1, .int .u32 n2, .int .u32 n3, .int .u32 n4, .int .u32 n5] (0, 0) _ rfl hput hu49 rfl (by kernel_rfl)) rfl ?_
  obtain ⟨hn1, hn2, hn3, hn4, hn5⟩ := HN.out
  rw [hn1, hn2, hn3, hn4, hn5]
  exact ⟨rfl, (((((((HBG.out.setCell (p := ⟨w.heap.size, 0, none⟩) (Nat.le_refl _) (.string m)).setCell (p := ⟨w.heap.size, 1, none⟩) (Nat.le_refl _) (.string r)).setCell (p := ⟨w.heap.size, 2, none⟩) (Nat.le_refl _) (.int .u32 n1)).setCell (p := ⟨w.heap.size, 3, none⟩) (Nat.le_refl _) (.int .u32 n2)).setCell (p := ⟨w.heap.size, 4, none⟩) (Nat.le_refl _) (.int .u32 n3)).setCell (p := ⟨w.heap.size, 5, none⟩) (Nat.le_refl _) (.int .u32 n4)).setCell (p := ⟨w.heap.size, 6, none⟩) (Nat.le_refl _) (.int .u32 n5))⟩
end Go.Proofs.YtjmpckommjlnlaaGreat.Rdata
namespace Go.Proofs.YtjmpckommjlnlaaGreat.Given
open Go.RowKit Go.Proofs.YtjmpckommjlnlaaGreat.RdataFacts Go.Proofs.YtjmpckommjlnlaaGreat.Rdata
def rdata_Soa.f (a0 : ByteArray) : Option (ByteArray × ByteArray × Int × Int × Int × Int × Int × Int) := if a0.size ≤ 9223372036854775807 then some (if rightD 6 a0 = true then (soaM a0, soaR a0, soaN a0 0, soaN a0 1, soaN a0 2, soaN a0 3, soaN a0 4, 0) else (⟨#[]⟩, ⟨#[]⟩, 0, 0, 0, 0, 0, 2)) else none
theorem soa_yes {a : ByteArray} (h : rightD 6 a = true) : rdata_Soa.f a = some (soaM a, soaR a, soaN a 0, soaN a 1, soaN a 2, soaN a 3, soaN a 4, 0) := by
  have := (right6 h).1
  unfold rdata_Soa.f
  rw [if_pos (by omega), if_pos h]
theorem soa_no {a : ByteArray} (hs : a.size ≤ 9223372036854775807) (h : rightD 6 a = false) : rdata_Soa.f a = some (⟨#[]⟩, ⟨#[]⟩, 0, 0, 0, 0, 0, 2) := by
  unfold rdata_Soa.f
  rw [if_pos hs, if_neg (by rw [h]; decide)]
theorem rdata_Soa.calls (a0 : ByteArray) (r1 r2 : ByteArray) (r3 r4 r5 r6 r7 r8 : Int) (w : World) (h : rdata_Soa.f a0 = some (r1, r2, r3, r4, r5, r6, r7, r8)) :
    Calls Tryz.prog 70 #[.string a0] w fun e w' => e = .returned (.tuple #[.agg #[.string r1, .string r2, .int .u32 r3, .int .u32 r4, .int .u32 r5, .int .u32 r6, .int .u32 r7], .int .i64 r8]) ∧ Below w.heap.size w w' := by
  have hs : a0.size ≤ 9223372036854775807 := Classical.byContradiction fun hn => by unfold rdata_Soa.f at h; rw [if_neg hn] at h; cases h
  cases hr : rightD 6 a0 with
  | false =>
    rw [soa_no hs hr] at h
    simp only [Option.some.injEq, Prod.mk.injEq] at h
    obtain ⟨rfl, rfl, rfl, rfl, rfl, rfl, rfl, rfl⟩ := h
    exact soa_bad a0 w hs hr
  | true =>
    obtain ⟨m, r, s1, s2, s3, s4, s5, he, _, _, h1, h2, h3, h4, h5⟩ := soa_walk (right6 hr).2.1
    obtain ⟨g1, g2, g3, g4, g5, g6, g7⟩ := soa_get he
    rw [soa_yes hr, g1, g2, g3, g4, g5, g6, g7] at h
    simp only [Option.some.injEq, Prod.mk.injEq] at h
    obtain ⟨rfl, rfl, rfl, rfl, rfl, rfl, rfl, rfl⟩ := h
    exact soa_good a0 w hr m r s1 s2 s3 s4 s5 he h1 h2 h3 h4 h5
end Go.Proofs.YtjmpckommjlnlaaGreat.Given
namespace Go.Proofs.YtjmpckommjlnlaaGreat.PZm
open Go.RowKit Go.Proofs.YtjmpckommjlnlaaGreatW.PrintWords Go.Proofs.YtjmpckommjlnlaaGreatW.PrintLast Go.Proofs.YtjmpckommjlnlaaGreatW.PrintMore Go.Proofs.YtjmpckommjlnlaaGreat.Given Go.Proofs.YtjmpckommjlnlaaGreat.PRd Go.Proofs.YtjmpckommjlnlaaGreat.PRr Go.Proofs.YtjmpckommjlnlaaGreat.PZo Go.Proofs.YtjmpckommjlnlaaGreat.PZf Go.Proofs.YtjmpckommjlnlaaGreat.PZe Go.Proofs.YtjmpckommjlnlaaGreat.PZh
attribute [local go_sem] max2_int min2_int max_two min_two max_three min_three max_four min_four   -- for this text's walks alone
set_option linter.unusedVariables false
set_option linter.unusedSimpArgs false
def errW : Option Int → Value
 | none => .nilIface
 | some c => .iface 0 (.int .i64 c)
theorem errW_none : errW none = .nilIface := rfl
theorem errW_some (c : Int) : errW (some c) = .iface 0 (.int .i64 c) := rfl
end Go.Proofs.YtjmpckommjlnlaaGreat.PZm
namespace Go.Proofs.YtjmpckommjlnlaaGreat.PZm
open Go.RowKit Go.Proofs.YtjmpckommjlnlaaGreatW.PrintWords Go.Proofs.YtjmpckommjlnlaaGreatW.PrintLast Go.Proofs.YtjmpckommjlnlaaGreatW.PrintMore Go.Proofs.YtjmpckommjlnlaaGreat.Given Go.Proofs.YtjmpckommjlnlaaGreat.PRd Go.Proofs.YtjmpckommjlnlaaGreat.PRr Go.Proofs.YtjmpckommjlnlaaGreat.PZo Go.Proofs.YtjmpckommjlnlaaGreat.PZf Go.Proofs.YtjmpckommjlnlaaGreat.PZe Go.Proofs.YtjmpckommjlnlaaGreat.PZh
attribute [local go_sem] max2_int min2_int max_two min_two max_three min_three max_four min_four   -- for this text's walks alone
set_option linter.unusedVariables false
set_option linter.unusedSimpArgs false
noncomputable def zone_Zone_Soa.f (a0_0 : ByteArray) (l0_1 : List (S35)) (a0_2 : Int) : Option (ByteArray × Int × Int × Int × ByteArray × ByteArray × ByteArray × Int × Int × Int × Int × Int) := if 0 ≤ a0_2 then (if a0_2 < (l0_1.length : Int) then ((rdata_Soa.f ((rd_T35 l0_1 a0_2).f4)).bind fun bt106 => (some ((rd_T35 l0_1 a0_2).f0, (rd_T35 l0_1 a0_2).f1, (rd_T35 l0_1 a0_2).f2, (rd_T35 l0_1 a0_2).f3, (rd_T35 l0_1 a0_2).f4, bt106.1, bt106.2.1, bt106.2.2.1, bt106.2.2.2.1, bt106.2.2.2.2.1, bt106.2.2.2.2.2.1, bt106.2.2.2.2.2.2.1))) else (none)) else (none)
set_option maxHeartbeats 8000000 in
set_option maxRecDepth 100000 in
theorem zone_Zone_Soa.calls (a0_0 : ByteArray) (A0_1 : Option Addr) (c0_1 : Nat) (l0_1 : List (S35)) (a0_2 : Int) (r1 : ByteArray) (r2 : Int) (r3 : Int) (r4 : Int) (r5 : ByteArray) (r6 : ByteArray) (r7 : ByteArray) (r8 : Int) (r9 : Int) (r10 : Int) (r11 : Int) (r12 : Int) (w : World) (hr0_1 : Kd.C k35 w A0_1 l0_1.length l0_1) (hc0_1 : l0_1.length ≤ c0_1) (h : zone_Zone_Soa.f a0_0 l0_1 a0_2 = some (r1, r2, r3, r4, r5, r6, r7, r8, r9, r10, r11, r12)) :
  Calls Tryz.prog 19 #[.agg #[.string a0_0, .slice A0_1 l0_1.length c0_1, .int .i64 a0_2]] w fun e w' => e = .returned (.tuple #[.agg #[.string r1, .int .i64 r2, .int .i64 r3, .int .i64 r4, .string r5], .agg #[.string r6, .string r7, .int .u32 r8, .int .u32 r9, .int .u32 r10, .int .u32 r11, .int .u32 r12]]) ∧ Below w.heap.size w w' := by
 have hu26 := Tryz.underlying26
 have hu35 := Tryz.underlying35
 have hu38 := Tryz.underlying38
 have HR0_1 := Aside0.mk hr0_1
 have HC0_1 := Aside0.mk hc0_1
 clear hr0_1 hc0_1
 have HB := Aside0.mk (Below.refl w.heap.size w)
 have H : (if 0 ≤ a0_2 then (if a0_2 < (l0_1.length : Int) then ((rdata_Soa.f ((rd_T35 l0_1 a0_2).f4)).bind fun bt106 => (some ((rd_T35 l0_1 a0_2).f0, (rd_T35 l0_1 a0_2).f1, (rd_T35 l0_1 a0_2).f2, (rd_T35 l0_1 a0_2).f3, (rd_T35 l0_1 a0_2).f4, bt106.1, bt106.2.1, bt106.2.2.1, bt106.2.2.2.1, bt106.2.2.2.2.1, bt106.2.2.2.2.2.1, bt106.2.2.2.2.2.2.1))) else (none)) else (none)) = some (r1, r2, r3, r4, r5, r6, r7, r8, r9, r10, r11, r12) := h
 clear h
 by_cases c2 : 0 ≤ a0_2
 ·rw [if_pos c2] at H
  have c2b0 : decide (0 ≤ a0_2) = true := decide_eq_true c2
  clear c2
  by_cases c3 : a0_2 < (l0_1.length : Int)
  ·rw [if_pos c3] at H
   have c3b0 : decide (a0_2 < (l0_1.length : Int)) = true := decide_eq_true c3
   clear c3
   replace H := Option.bind_eq_some_iff.mp H
   obtain ⟨⟨t106, t107, t108, t109, t110, t111, t112, t113⟩, A40, H⟩ := H
   replace H : (some ((rd_T35 l0_1 a0_2).f0, (rd_T35 l0_1 a0_2).f1, (rd_T35 l0_1 a0_2).f2, (rd_T35 l0_1 a0_2).f3, (rd_T35 l0_1 a0_2).f4, t106, t107, t108, t109, t110, t111, t112)) = some (r1, r2, r3, r4, r5, r6, r7, r8, r9, r10, r11, r12) := H
   have A4 := Aside0.mk A40
   clear A40
   simp only [Option.some.injEq, Prod.mk.injEq] at H
   obtain ⟨rfl, rfl, rfl, rfl, rfl, rfl, rfl, rfl, rfl, rfl, rfl, rfl⟩ := H
   go_enter Tryz.func19, Tryz.ntmps19
   try go_wp2_with (first | ((with_reducible refine gate_dst (N := 1) rfl ?_); refine box_event ?hg (N := 1) ?hd (cs := #[.string a0_0, .slice A0_1 l0_1.length c0_1, .int .i64 a0_2]) (t := 26) ?hr ?_; (case hd => rfl); (case hg => rfl); (case hr => first | (go_simp; done) | (go_simp; rfl)); intro gb101 hg w5 hbox hb; have n0_ := Aside0.mk (below_step (by repeat (first | (with_reducible first | exact HB.out | apply below_alloc | apply pw_below_drewN | apply below_drew1) | exact HB.out)) hb); have n1_ := Aside0.mk (hbox); have n2_ := Aside0.mk ((by rw [hg]; exact (below_size (by repeat (first | (with_reducible first | exact HB.out | apply below_alloc | apply pw_below_drewN | apply below_drew1) | exact HB.out))) : w.heap.size ≤ gb101)); have n3_ := Aside0.mk ((by rw [hg]; exact (below_size (by repeat (first | (with_reducible first | exact HB.out | apply below_alloc | apply pw_below_drewN | apply below_drew1) | exact HB.out))) : w.heap.size ≤ gb101)); clear HB; have HB := n0_; have BK101 := n1_; have GW101 := n2_; have GE101 := n3_; clear n0_ n1_ n2_ n3_; clear hb hbox hg) | ((with_reducible refine gate_dst (N := 2) rfl ?_); refine box_event ?hg (N := 2) ?hd (cs := #[.string (⟨#[]⟩ : ByteArray), .int .i64 0, .int .i64 0, .int .i64 0, .string (⟨#[]⟩ : ByteArray)]) (t := 35) ?hr ?_; (case hd => rfl); (case hg => rfl); (case hr => first | (go_simp; done) | (go_simp; rfl)); intro gb102 hg w6 hbox hb; have n0_ := Aside0.mk (blk_below (g := gb101) (o := .cells #[.string a0_0, .slice A0_1 l0_1.length c0_1, .int .i64 a0_2] 26 (0, 0)) (by (with_reducible repeat (first | refine blk_drewN ?_ _ | refine blk_drew ?_ | refine blk_alloc ?_ _)); exact BK101.out) hb); have n1_ := Aside0.mk (below_step (by repeat (first | (with_reducible first | exact HB.out | apply below_alloc | apply pw_below_drewN | apply below_drew1 | refine below_set ?_ GE101.out) | exact HB.out)) hb); have n2_ := Aside0.mk (hbox); have n3_ := Aside0.mk ((by rw [hg]; exact (below_size (by repeat (first | (with_reducible first | exact HB.out | apply below_alloc | apply pw_below_drewN | apply below_drew1 | refine below_set ?_ GE101.out) | exact HB.out))) : w.heap.size ≤ gb102)); have n4_ := Aside0.mk ((by rw [hg]; exact (below_size (by repeat (first | (with_reducible first | exact HB.out | apply below_alloc | apply pw_below_drewN | apply below_drew1 | refine below_set ?_ GE101.out) | exact HB.out))) : w.heap.size ≤ gb102)); have n5_ := Aside0.mk ((by rw [hg]; exact Nat.ne_of_lt (blk_lt (g := gb101) (o := .cells #[.string a0_0, .slice A0_1 l0_1.length c0_1, .int .i64 a0_2] 26 (0, 0)) (by (with_reducible repeat (first | refine blk_drewN ?_ _ | refine blk_drew ?_ | refine blk_alloc ?_ _)); exact BK101.out)) : gb101 ≠ gb102)); have n6_ := Aside0.mk ((by rw [hg]; exact Nat.ne_of_gt (blk_lt (g := gb101) (o := .cells #[.string a0_0, .slice A0_1 l0_1.length c0_1, .int .i64 a0_2] 26 (0, 0)) (by (with_reducible repeat (first | refine blk_drewN ?_ _ | refine blk_drew ?_ | refine blk_alloc ?_ _)); exact BK101.out)) : gb102 ≠ gb101)); clear BK101; clear HB; have BK101 := n0_; have HB := n1_; have BK102 := n2_; have GW102 := n3_; have GE102 := n4_; have NB101_102 := n5_; have NB102_101 := n6_; clear n0_ n1_ n2_ n3_ n4_ n5_ n6_; clear hb hbox hg) | ((with_reducible refine gate_dst (N := 3) rfl ?_); refine box_event ?hg (N := 3) ?hd (cs := #[.string (⟨#[]⟩ : ByteArray), .string (⟨#[]⟩ : ByteArray), .int .u32 0, .int .u32 0, .int .u32 0, .int .u32 0, .int .u32 0]) (t := 38) ?hr ?_; (case hd => rfl); (case hg => rfl); (case hr => first | (go_simp; done) | (go_simp; rfl)); intro gb103 hg w7 hbox hb; have n0_ := Aside0.mk (blk_below (g := gb101) (o := .cells #[.string a0_0, .slice A0_1 l0_1.length c0_1, .int .i64 a0_2] 26 (0, 0)) (by (with_reducible repeat (first | refine blk_drewN ?_ _ | refine blk_drew ?_ | refine blk_alloc ?_ _)); exact BK101.out) hb); have n1_ := Aside0.mk (blk_below (g := gb102) (o := .cells #[.string (⟨#[]⟩ : ByteArray), .int .i64 0, .int .i64 0, .int .i64 0, .string (⟨#[]⟩ : ByteArray)] 35 (0, 0)) (by (with_reducible repeat (first | refine blk_drewN ?_ _ | refine blk_drew ?_ | refine blk_alloc ?_ _)); exact BK102.out) hb); have n2_ := Aside0.mk (below_step (by repeat (first | (with_reducible first | exact HB.out | apply below_alloc | apply pw_below_drewN | apply below_drew1 | refine below_set ?_ GE101.out | refine below_set ?_ GE102.out) | exact HB.out)) hb); have n3_ := Aside0.mk (hbox); have n4_ := Aside0.mk ((by rw [hg]; exact (below_size (by repeat (first | (with_reducible first | exact HB.out | apply below_alloc | apply pw_below_drewN | apply below_drew1 | refine below_set ?_ GE101.out | refine below_set ?_ GE102.out) | exact HB.out))) : w.heap.size ≤ gb103)); have n5_ := Aside0.mk ((by rw [hg]; exact (below_size (by repeat (first | (with_reducible first | exact HB.out | apply below_alloc | apply pw_below_drewN | apply below_drew1 | refine below_set ?_ GE101.out | refine below_set ?_ GE102.out) | exact HB.out))) : w.heap.size ≤ gb103)); have n6_ := Aside0.mk ((by rw [hg]; exact Nat.ne_of_lt (blk_lt (g := gb101) (o := .cells #[.string a0_0, .slice A0_1 l0_1.length c0_1, .int .i64 a0_2] 26 (0, 0)) (by (with_reducible repeat (first | refine blk_drewN ?_ _ | refine blk_drew ?_ | refine blk_alloc ?_ _)); exact BK101.out)) : gb101 ≠ gb103)); have n7_ := Aside0.mk ((by rw [hg]; exact Nat.ne_of_gt (blk_lt (g := gb101) (o := .cells #[.string a0_0, .slice A0_1 l0_1.length c0_1, .int .i64 a0_2] 26 (0, 0)) (by (with_reducible repeat (first | refine blk_drewN ?_ _ | refine blk_drew ?_ | refine blk_alloc ?_ _)); exact BK101.out)) : gb103 ≠ gb101)); have n8_ := Aside0.mk ((by rw [hg]; exact Nat.ne_of_lt (blk_lt (g := gb102) (o := .cells #[.string (⟨#[]⟩ : ByteArray), .int .i64 0, .int .i64 0, .int .i64 0, .string (⟨#[]⟩ : ByteArray)] 35 (0, 0)) (by (with_reducible repeat (first | refine blk_drewN ?_ _ | refine blk_drew ?_ | refine blk_alloc ?_ _)); exact BK102.out)) : gb102 ≠ gb103)); have n9_ := Aside0.mk ((by rw [hg]; exact Nat.ne_of_gt (blk_lt (g := gb102) (o := .cells #[.string (⟨#[]⟩ : ByteArray), .int .i64 0, .int .i64 0, .int .i64 0, .string (⟨#[]⟩ : ByteArray)] 35 (0, 0)) (by (with_reducible repeat (first | refine blk_drewN ?_ _ | refine blk_drew ?_ | refine blk_alloc ?_ _)); exact BK102.out)) : gb103 ≠ gb102)); clear BK101; clear BK102; clear HB; have BK101 := n0_; have BK102 := n1_; have HB := n2_; have BK103 := n3_; have GW103 := n4_; have GE103 := n5_; have NB101_103 := n6_; have NB103_101 := n7_; have NB102_103 := n8_; have NB103_102 := n9_; clear n0_ n1_ n2_ n3_ n4_ n5_ n6_ n7_ n8_ n9_; clear hb hbox hg; have hnb8 := NB101_102.out; have hnc8 := NB102_101.out; have hnb9 := NB101_103.out; have hnc9 := NB103_101.out; have hcz10_0 : w7.cell? ⟨gb101, 0, none⟩ = some (.string a0_0) := (blk_cell BK101.out 0).trans rfl; have hcz10_1 : w7.cell? ⟨gb101, 1, none⟩ = some (.slice A0_1 l0_1.length c0_1) := (blk_cell BK101.out 1).trans rfl; have hcz10_2 : w7.cell? ⟨gb101, 2, none⟩ = some (.int .i64 a0_2) := (blk_cell BK101.out 2).trans rfl; have hfz10_0 := blk_frozen BK101.out 0; have hfz10_1 := blk_frozen BK101.out 1; have hfz10_2 := blk_frozen BK101.out 2; have p104 : 0 ≤ (a0_2 : Int) := of_decide_eq_true (by first | (with_reducible assumption) | assumption); have q104 : a0_2 < (l0_1.length : Int) := of_decide_eq_true (by first | (with_reducible assumption) | assumption); obtain ⟨ad104, e104, hx104_0, hx104_1, hx104_2, hx104_3, hx104_4⟩ := at_T35 HR0_1.out a0_2 p104 q104; cases e104; replace hx104_0 := (HB.out.cell (World.block_lt_of_cell? w _ hx104_0)).trans hx104_0; replace hx104_1 := (HB.out.cell (World.block_lt_of_cell? w _ hx104_1)).trans hx104_1; replace hx104_2 := (HB.out.cell (World.block_lt_of_cell? w _ hx104_2)).trans hx104_2; replace hx104_3 := (HB.out.cell (World.block_lt_of_cell? w _ hx104_3)).trans hx104_3; replace hx104_4 := (HB.out.cell (World.block_lt_of_cell? w _ hx104_4)).trans hx104_4; replace p104 := eq_true p104; replace q104 := eq_true q104) | ((with_reducible refine gate_dst (N := 4) rfl ?_); refine box_event ?hg (N := 4) ?hd (cs := #[.string (⟨#[]⟩ : ByteArray), .int .i64 0, .int .i64 0, .int .i64 0, .string (⟨#[]⟩ : ByteArray)]) (t := 35) ?hr ?_; (case hd => rfl); (case hg => rfl); (case hr => first | (go_simp; done) | (go_simp; rfl)); intro gb105 hg w11 hbox hb; have n0_ := Aside0.mk (blk_below (g := gb101) (o := .cells #[.string a0_0, .slice (some ad104) l0_1.length c0_1, .int .i64 a0_2] 26 (0, 0)) (by (with_reducible repeat (first | refine blk_drewN ?_ _ | refine blk_drew ?_ | refine blk_alloc ?_ _)); exact BK101.out) hb); have n1_ := Aside0.mk (blk_below (g := gb102) (o := .cells #[.string (⟨#[]⟩ : ByteArray), .int .i64 0, .int .i64 0, .int .i64 0, .string (⟨#[]⟩ : ByteArray)] 35 (0, 0)) (by (with_reducible repeat (first | refine blk_drewN ?_ _ | refine blk_drew ?_ | refine blk_alloc ?_ _)); exact BK102.out) hb); have n2_ := Aside0.mk (blk_below (g := gb103) (o := .cells #[.string (⟨#[]⟩ : ByteArray), .string (⟨#[]⟩ : ByteArray), .int .u32 0, .int .u32 0, .int .u32 0, .int .u32 0, .int .u32 0] 38 (0, 0)) (by (with_reducible repeat (first | refine blk_drewN ?_ _ | refine blk_drew ?_ | refine blk_alloc ?_ _)); exact BK103.out) hb); have n3_ := Aside0.mk (below_step (by repeat (first | (with_reducible first | exact HB.out | apply below_alloc | apply pw_below_drewN | apply below_drew1 | refine below_set ?_ GE101.out | refine below_set ?_ GE102.out | refine below_set ?_ GE103.out) | exact HB.out)) hb); have n4_ := Aside0.mk (hbox); have n5_ := Aside0.mk ((by rw [hg]; exact (below_size (by repeat (first | (with_reducible first | exact HB.out | apply below_alloc | apply pw_below_drewN | apply below_drew1 | refine below_set ?_ GE101.out | refine below_set ?_ GE102.out | refine below_set ?_ GE103.out) | exact HB.out))) : w.heap.size ≤ gb105)); have n6_ := Aside0.mk ((by rw [hg]; exact (below_size (by repeat (first | (with_reducible first | exact HB.out | apply below_alloc | apply pw_below_drewN | apply below_drew1 | refine below_set ?_ GE101.out | refine below_set ?_ GE102.out | refine below_set ?_ GE103.out) | exact HB.out))) : w.heap.size ≤ gb105)); have n7_ := Aside0.mk ((by rw [hg]; exact Nat.ne_of_lt (blk_lt (g := gb101) (o := .cells #[.string a0_0, .slice (some ad104) l0_1.length c0_1, .int .i64 a0_2] 26 (0, 0)) (by (with_reducible repeat (first | refine blk_drewN ?_ _ | refine blk_drew ?_ | refine blk_alloc ?_ _)); exact BK101.out)) : gb101 ≠ gb105)); have n8_ := Aside0.mk ((by rw [hg]; exact Nat.ne_of_gt (blk_lt (g := gb101) (o := .cells #[.string a0_0, .slice (some ad104) l0_1.length c0_1, .int .i64 a0_2] 26 (0, 0)) (by (with_reducible repeat (first | refine blk_drewN ?_ _ | refine blk_drew ?_ | refine blk_alloc ?_ _)); exact BK101.out)) : gb105 ≠ gb101)); have n9_ := Aside0.mk ((by rw [hg]; exact Nat.ne_of_lt (blk_lt (g := gb102) (o := .cells #[.string (⟨#[]⟩ : ByteArray), .int .i64 0, .int .i64 0, .int .i64 0, .string (⟨#[]⟩ : ByteArray)] 35 (0, 0)) (by (with_reducible repeat (first | refine blk_drewN ?_ _ | refine blk_drew ?_ | refine blk_alloc ?_ _)); exact BK102.out)) : gb102 ≠ gb105)); have n10_ := Aside0.mk ((by rw [hg]; exact Nat.ne_of_gt (blk_lt (g := gb102) (o := .cells #[.string (⟨#[]⟩ : ByteArray), .int .i64 0, .int .i64 0, .int .i64 0, .string (⟨#[]⟩ : ByteArray)] 35 (0, 0)) (by (with_reducible repeat (first | refine blk_drewN ?_ _ | refine blk_drew ?_ | refine blk_alloc ?_ _)); exact BK102.out)) : gb105 ≠ gb102)); have n11_ := Aside0.mk ((by rw [hg]; exact Nat.ne_of_lt (blk_lt (g := gb103) (o := .cells #[.string (⟨#[]⟩ : ByteArray), .string (⟨#[]⟩ : ByteArray), .int .u32 0, .int .u32 0, .int .u32 0, .int .u32 0, .int .u32 0] 38 (0, 0)) (by (with_reducible repeat (first | refine blk_drewN ?_ _ | refine blk_drew ?_ | refine blk_alloc ?_ _)); exact BK103.out)) : gb103 ≠ gb105)); have n12_ := Aside0.mk ((by rw [hg]; exact Nat.ne_of_gt (blk_lt (g := gb103) (o := .cells #[.string (⟨#[]⟩ : ByteArray), .string (⟨#[]⟩ : ByteArray), .int .u32 0, .int .u32 0, .int .u32 0, .int .u32 0, .int .u32 0] 38 (0, 0)) (by (with_reducible repeat (first | refine blk_drewN ?_ _ | refine blk_drew ?_ | refine blk_alloc ?_ _)); exact BK103.out)) : gb105 ≠ gb103)); clear BK101; clear BK102; clear BK103; clear HB; have BK101 := n0_; have BK102 := n1_; have BK103 := n2_; have HB := n3_; have BK105 := n4_; have GW105 := n5_; have GE105 := n6_; have NB101_105 := n7_; have NB105_101 := n8_; have NB102_105 := n9_; have NB105_102 := n10_; have NB103_105 := n11_; have NB105_103 := n12_; clear n0_ n1_ n2_ n3_ n4_ n5_ n6_ n7_ n8_ n9_ n10_ n11_ n12_; clear hb hbox hg; have hnb12 := NB105_101.out; have hnc12 := NB101_105.out; have hnb13 := NB105_102.out; have hnc13 := NB102_105.out; have hnb14 := NB105_103.out; have hnc14 := NB103_105.out; have hcz15_0 : w11.cell? ⟨gb105, 0, none⟩ = some (.string (⟨#[]⟩ : ByteArray)) := (blk_cell BK105.out 0).trans rfl; have hcz15_1 : w11.cell? ⟨gb105, 1, none⟩ = some (.int .i64 0) := (blk_cell BK105.out 1).trans rfl; have hcz15_2 : w11.cell? ⟨gb105, 2, none⟩ = some (.int .i64 0) := (blk_cell BK105.out 2).trans rfl; have hcz15_3 : w11.cell? ⟨gb105, 3, none⟩ = some (.int .i64 0) := (blk_cell BK105.out 3).trans rfl; have hcz15_4 : w11.cell? ⟨gb105, 4, none⟩ = some (.string (⟨#[]⟩ : ByteArray)) := (blk_cell BK105.out 4).trans rfl; have hfz15_0 := blk_frozen BK105.out 0; have hfz15_1 := blk_frozen BK105.out 1; have hfz15_2 := blk_frozen BK105.out 2; have hfz15_3 := blk_frozen BK105.out 3; have hfz15_4 := blk_frozen BK105.out 4) | ((with_reducible refine gate_callee (f := 70) rfl ?_); refine goesL_ (some 16) rfl rfl Tryz.func70 (by kernel_rfl) rfl #[.string ((rd_T35 l0_1 a0_2).f4)] rfl (by (try simp only [List.map_toArray, List.map_cons, List.map_nil]); first | done | rfl | (simp only [List.length_drop, List.length_take]; rfl)) ?_; (with_reducible refine (rdata_Soa.calls ((rd_T35 l0_1 a0_2).f4) t106 t107 t108 t109 t110 t111 t112 t113 _ A4.out).mono ?_); rintro e w16 ⟨rfl, hb⟩; refine ⟨_, rfl, ?_⟩; have n0_ := Aside0.mk (blk_below (g := gb101) (o := .cells #[.string a0_0, .slice (some ad104) l0_1.length c0_1, .int .i64 a0_2] 26 (0, 0)) (by (with_reducible repeat (first | refine blk_drewN ?_ _ | refine blk_drew ?_ | refine blk_alloc ?_ _)); refine blk_far ?_ NB101_105.out _; (with_reducible repeat (first | refine blk_drewN ?_ _ | refine blk_drew ?_ | refine blk_alloc ?_ _)); refine blk_far ?_ NB101_105.out _; (with_reducible repeat (first | refine blk_drewN ?_ _ | refine blk_drew ?_ | refine blk_alloc ?_ _)); refine blk_far ?_ NB101_105.out _; (with_reducible repeat (first | refine blk_drewN ?_ _ | refine blk_drew ?_ | refine blk_alloc ?_ _)); refine blk_far ?_ NB101_105.out _; (with_reducible repeat (first | refine blk_drewN ?_ _ | refine blk_drew ?_ | refine blk_alloc ?_ _)); refine blk_far ?_ NB101_105.out _; (with_reducible repeat (first | refine blk_drewN ?_ _ | refine blk_drew ?_ | refine blk_alloc ?_ _)); exact BK101.out) hb); have n1_ := Aside0.mk (blk_below (g := gb102) (o := .cells #[.string (⟨#[]⟩ : ByteArray), .int .i64 0, .int .i64 0, .int .i64 0, .string (⟨#[]⟩ : ByteArray)] 35 (0, 0)) (by (with_reducible repeat (first | refine blk_drewN ?_ _ | refine blk_drew ?_ | refine blk_alloc ?_ _)); refine blk_far ?_ NB102_105.out _; (with_reducible repeat (first | refine blk_drewN ?_ _ | refine blk_drew ?_ | refine blk_alloc ?_ _)); refine blk_far ?_ NB102_105.out _; (with_reducible repeat (first | refine blk_drewN ?_ _ | refine blk_drew ?_ | refine blk_alloc ?_ _)); refine blk_far ?_ NB102_105.out _; (with_reducible repeat (first | refine blk_drewN ?_ _ | refine blk_drew ?_ | refine blk_alloc ?_ _)); refine blk_far ?_ NB102_105.out _; (with_reducible repeat (first | refine blk_drewN ?_ _ | refine blk_drew ?_ | refine blk_alloc ?_ _)); refine blk_far ?_ NB102_105.out _; (with_reducible repeat (first | refine blk_drewN ?_ _ | refine blk_drew ?_ | refine blk_alloc ?_ _)); exact BK102.out) hb); have n2_ := Aside0.mk (blk_below (g := gb103) (o := .cells #[.string (⟨#[]⟩ : ByteArray), .string (⟨#[]⟩ : ByteArray), .int .u32 0, .int .u32 0, .int .u32 0, .int .u32 0, .int .u32 0] 38 (0, 0)) (by (with_reducible repeat (first | refine blk_drewN ?_ _ | refine blk_drew ?_ | refine blk_alloc ?_ _)); refine blk_far ?_ NB103_105.out _; (with_reducible repeat (first | refine blk_drewN ?_ _ | refine blk_drew ?_ | refine blk_alloc ?_ _)); refine blk_far ?_ NB103_105.out _; (with_reducible repeat (first | refine blk_drewN ?_ _ | refine blk_drew ?_ | refine blk_alloc ?_ _)); refine blk_far ?_ NB103_105.out _; (with_reducible repeat (first | refine blk_drewN ?_ _ | refine blk_drew ?_ | refine blk_alloc ?_ _)); refine blk_far ?_ NB103_105.out _; (with_reducible repeat (first | refine blk_drewN ?_ _ | refine blk_drew ?_ | refine blk_alloc ?_ _)); refine blk_far ?_ NB103_105.out _; (with_reducible repeat (first | refine blk_drewN ?_ _ | refine blk_drew ?_ | refine blk_alloc ?_ _)); exact BK103.out) hb); have n3_ := Aside0.mk (blk_below (g := gb105) (o := .cells #[.string ((rd_T35 l0_1 a0_2).f0), .int .i64 ((rd_T35 l0_1 a0_2).f1), .int .i64 ((rd_T35 l0_1 a0_2).f2), .int .i64 ((rd_T35 l0_1 a0_2).f3), .string ((rd_T35 l0_1 a0_2).f4)] 35 (0, 0)) (by (with_reducible repeat (first | refine blk_drewN ?_ _ | refine blk_drew ?_ | refine blk_alloc ?_ _)); refine blk_put (cs := #[.string ((rd_T35 l0_1 a0_2).f0), .int .i64 ((rd_T35 l0_1 a0_2).f1), .int .i64 ((rd_T35 l0_1 a0_2).f2), .int .i64 ((rd_T35 l0_1 a0_2).f3), .string (⟨#[]⟩ : ByteArray)]) ?_ 4 _ rfl; (with_reducible repeat (first | refine blk_drewN ?_ _ | refine blk_drew ?_ | refine blk_alloc ?_ _)); refine blk_put (cs := #[.string ((rd_T35 l0_1 a0_2).f0), .int .i64 ((rd_T35 l0_1 a0_2).f1), .int .i64 ((rd_T35 l0_1 a0_2).f2), .int .i64 0, .string (⟨#[]⟩ : ByteArray)]) ?_ 3 _ rfl; (with_reducible repeat (first | refine blk_drewN ?_ _ | refine blk_drew ?_ | refine blk_alloc ?_ _)); refine blk_put (cs := #[.string ((rd_T35 l0_1 a0_2).f0), .int .i64 ((rd_T35 l0_1 a0_2).f1), .int .i64 0, .int .i64 0, .string (⟨#[]⟩ : ByteArray)]) ?_ 2 _ rfl; (with_reducible repeat (first | refine blk_drewN ?_ _ | refine blk_drew ?_ | refine blk_alloc ?_ _)); refine blk_put (cs := #[.string ((rd_T35 l0_1 a0_2).f0), .int .i64 0, .int .i64 0, .int .i64 0, .string (⟨#[]⟩ : ByteArray)]) ?_ 1 _ rfl; (with_reducible repeat (first | refine blk_drewN ?_ _ | refine blk_drew ?_ | refine blk_alloc ?_ _)); refine blk_put (cs := #[.string (⟨#[]⟩ : ByteArray), .int .i64 0, .int .i64 0, .int .i64 0, .string (⟨#[]⟩ : ByteArray)]) ?_ 0 _ rfl; (with_reducible repeat (first | refine blk_drewN ?_ _ | refine blk_drew ?_ | refine blk_alloc ?_ _)); exact BK105.out) hb); have n4_ := Aside0.mk (below_step (by repeat (first | (with_reducible first | exact HB.out | apply below_alloc | apply pw_below_drewN | apply below_drew1 | refine below_set ?_ GE101.out | refine below_set ?_ GE102.out | refine below_set ?_ GE103.out | refine below_set ?_ GE105.out) | exact HB.out)) hb); clear BK101; clear BK102; clear BK103; clear BK105; clear HB; have BK101 := n0_; have BK102 := n1_; have BK103 := n2_; have BK105 := n3_; have HB := n4_; clear n0_ n1_ n2_ n3_ n4_; (try clear hb); (try clear hb2); (try clear hk); (try clear hi)) | ((with_reducible refine gate_dst (N := 5) rfl ?_); refine box_event ?hg (N := 5) ?hd (cs := #[.string (⟨#[]⟩ : ByteArray), .string (⟨#[]⟩ : ByteArray), .int .u32 0, .int .u32 0, .int .u32 0, .int .u32 0, .int .u32 0]) (t := 38) ?hr ?_; (case hd => rfl); (case hg => rfl); (case hr => first | (go_simp; done) | (go_simp; rfl)); intro gb114 hg w17 hbox hb; have n0_ := Aside0.mk (blk_below (g := gb101) (o := .cells #[.string a0_0, .slice (some ad104) l0_1.length c0_1, .int .i64 a0_2] 26 (0, 0)) (by (with_reducible repeat (first | refine blk_drewN ?_ _ | refine blk_drew ?_ | refine blk_alloc ?_ _)); exact BK101.out) hb); have n1_ := Aside0.mk (blk_below (g := gb102) (o := .cells #[.string (⟨#[]⟩ : ByteArray), .int .i64 0, .int .i64 0, .int .i64 0, .string (⟨#[]⟩ : ByteArray)] 35 (0, 0)) (by (with_reducible repeat (first | refine blk_drewN ?_ _ | refine blk_drew ?_ | refine blk_alloc ?_ _)); exact BK102.out) hb); have n2_ := Aside0.mk (blk_below (g := gb103) (o := .cells #[.string (⟨#[]⟩ : ByteArray), .string (⟨#[]⟩ : ByteArray), .int .u32 0, .int .u32 0, .int .u32 0, .int .u32 0, .int .u32 0] 38 (0, 0)) (by (with_reducible repeat (first | refine blk_drewN ?_ _ | refine blk_drew ?_ | refine blk_alloc ?_ _)); exact BK103.out) hb); have n3_ := Aside0.mk (blk_below (g := gb105) (o := .cells #[.string ((rd_T35 l0_1 a0_2).f0), .int .i64 ((rd_T35 l0_1 a0_2).f1), .int .i64 ((rd_T35 l0_1 a0_2).f2), .int .i64 ((rd_T35 l0_1 a0_2).f3), .string ((rd_T35 l0_1 a0_2).f4)] 35 (0, 0)) (by (with_reducible repeat (first | refine blk_drewN ?_ _ | refine blk_drew ?_ | refine blk_alloc ?_ _)); exact BK105.out) hb); have n4_ := Aside0.mk (below_step (by repeat (first | (with_reducible first | exact HB.out | apply below_alloc | apply pw_below_drewN | apply below_drew1 | refine below_set ?_ GE101.out | refine below_set ?_ GE102.out | refine below_set ?_ GE103.out | refine below_set ?_ GE105.out) | exact HB.out)) hb); have n5_ := Aside0.mk (hbox); have n6_ := Aside0.mk ((by rw [hg]; exact (below_size (by repeat (first | (with_reducible first | exact HB.out | apply below_alloc | apply pw_below_drewN | apply below_drew1 | refine below_set ?_ GE101.out | refine below_set ?_ GE102.out | refine below_set ?_ GE103.out | refine below_set ?_ GE105.out) | exact HB.out))) : w.heap.size ≤ gb114)); have n7_ := Aside0.mk ((by rw [hg]; exact (below_size (by repeat (first | (with_reducible first | exact HB.out | apply below_alloc | apply pw_below_drewN | apply below_drew1 | refine below_set ?_ GE101.out | refine below_set ?_ GE102.out | refine below_set ?_ GE103.out | refine below_set ?_ GE105.out) | exact HB.out))) : w.heap.size ≤ gb114)); have n8_ := Aside0.mk ((by rw [hg]; exact Nat.ne_of_lt (blk_lt (g := gb101) (o := .cells #[.string a0_0, .slice (some ad104) l0_1.length c0_1, .int .i64 a0_2] 26 (0, 0)) (by (with_reducible repeat (first | refine blk_drewN ?_ _ | refine blk_drew ?_ | refine blk_alloc ?_ _)); exact BK101.out)) : gb101 ≠ gb114)); have n9_ := Aside0.mk ((by rw [hg]; exact Nat.ne_of_gt (blk_lt (g := gb101) (o := .cells #[.string a0_0, .slice (some ad104) l0_1.length c0_1, .int .i64 a0_2] 26 (0, 0)) (by (with_reducible repeat (first | refine blk_drewN ?_ _ | refine blk_drew ?_ | refine blk_alloc ?_ _)); exact BK101.out)) : gb114 ≠ gb101)); have n10_ := Aside0.mk ((by rw [hg]; exact Nat.ne_of_lt (blk_lt (g := gb102) (o := .cells #[.string (⟨#[]⟩ : ByteArray), .int .i64 0, .int .i64 0, .int .i64 0, .string (⟨#[]⟩ : ByteArray)] 35 (0, 0)) (by (with_reducible repeat (first | refine blk_drewN ?_ _ | refine blk_drew ?_ | refine blk_alloc ?_ _)); exact BK102.out)) : gb102 ≠ gb114)); have n11_ := Aside0.mk ((by rw [hg]; exact Nat.ne_of_gt (blk_lt (g := gb102) (o := .cells #[.string (⟨#[]⟩ : ByteArray), .int .i64 0, .int .i64 0, .int .i64 0, .string (⟨#[]⟩ : ByteArray)] 35 (0, 0)) (by (with_reducible repeat (first | refine blk_drewN ?_ _ | refine blk_drew ?_ | refine blk_alloc ?_ _)); exact BK102.out)) : gb114 ≠ gb102)); have n12_ := Aside0.mk ((by rw [hg]; exact Nat.ne_of_lt (blk_lt (g := gb103) (o := .cells #[.string (⟨#[]⟩ : ByteArray), .string (⟨#[]⟩ : ByteArray), .int .u32 0, .int .u32 0, .int .u32 0, .int .u32 0, .int .u32 0] 38 (0, 0)) (by (with_reducible repeat (first | refine blk_drewN ?_ _ | refine blk_drew ?_ | refine blk_alloc ?_ _)); exact BK103.out)) : gb103 ≠ gb114)); have n13_ := Aside0.mk ((by rw [hg]; exact Nat.ne_of_gt (blk_lt (g := gb103) (o := .cells #[.string (⟨#[]⟩ : ByteArray), .string (⟨#[]⟩ : ByteArray), .int .u32 0, .int .u32 0, .int .u32 0, .int .u32 0, .int .u32 0] 38 (0, 0)) (by (with_reducible repeat (first | refine blk_drewN ?_ _ | refine blk_drew ?_ | refine blk_alloc ?_ _)); exact BK103.out)) : gb114 ≠ gb103)); have n14_ := Aside0.mk ((by rw [hg]; exact Nat.ne_of_lt (blk_lt (g := gb105) (o := .cells #[.string ((rd_T35 l0_1 a0_2).f0), .int .i64 ((rd_T35 l0_1 a0_2).f1), .int .i64 ((rd_T35 l0_1 a0_2).f2), .int .i64 ((rd_T35 l0_1 a0_2).f3), .string ((rd_T35 l0_1 a0_2).f4)] 35 (0, 0)) (by (with_reducible repeat (first | refine blk_drewN ?_ _ | refine blk_drew ?_ | refine blk_alloc ?_ _)); exact BK105.out)) : gb105 ≠ gb114)); have n15_ := Aside0.mk ((by rw [hg]; exact Nat.ne_of_gt (blk_lt (g := gb105) (o := .cells #[.string ((rd_T35 l0_1 a0_2).f0), .int .i64 ((rd_T35 l0_1 a0_2).f1), .int .i64 ((rd_T35 l0_1 a0_2).f2), .int .i64 ((rd_T35 l0_1 a0_2).f3), .string ((rd_T35 l0_1 a0_2).f4)] 35 (0, 0)) (by (with_reducible repeat (first | refine blk_drewN ?_ _ | refine blk_drew ?_ | refine blk_alloc ?_ _)); exact BK105.out)) : gb114 ≠ gb105)); clear BK101; clear BK102; clear BK103; clear BK105; clear HB; have BK101 := n0_; have BK102 := n1_; have BK103 := n2_; have BK105 := n3_; have HB := n4_; have BK114 := n5_; have GW114 := n6_; have GE114 := n7_; have NB101_114 := n8_; have NB114_101 := n9_; have NB102_114 := n10_; have NB114_102 := n11_; have NB103_114 := n12_; have NB114_103 := n13_; have NB105_114 := n14_; have NB114_105 := n15_; clear n0_ n1_ n2_ n3_ n4_ n5_ n6_ n7_ n8_ n9_ n10_ n11_ n12_ n13_ n14_ n15_; clear hb hbox hg; have hnb18 := NB114_101.out; have hnc18 := NB101_114.out; have hnb19 := NB114_102.out; have hnc19 := NB102_114.out; have hnb20 := NB114_103.out; have hnc20 := NB103_114.out; have hnb21 := NB114_105.out; have hnc21 := NB105_114.out; have hcz22_0 : w17.cell? ⟨gb114, 0, none⟩ = some (.string (⟨#[]⟩ : ByteArray)) := (blk_cell BK114.out 0).trans rfl; have hcz22_1 : w17.cell? ⟨gb114, 1, none⟩ = some (.string (⟨#[]⟩ : ByteArray)) := (blk_cell BK114.out 1).trans rfl; have hcz22_2 : w17.cell? ⟨gb114, 2, none⟩ = some (.int .u32 0) := (blk_cell BK114.out 2).trans rfl; have hcz22_3 : w17.cell? ⟨gb114, 3, none⟩ = some (.int .u32 0) := (blk_cell BK114.out 3).trans rfl; have hcz22_4 : w17.cell? ⟨gb114, 4, none⟩ = some (.int .u32 0) := (blk_cell BK114.out 4).trans rfl; have hcz22_5 : w17.cell? ⟨gb114, 5, none⟩ = some (.int .u32 0) := (blk_cell BK114.out 5).trans rfl; have hcz22_6 : w17.cell? ⟨gb114, 6, none⟩ = some (.int .u32 0) := (blk_cell BK114.out 6).trans rfl; have hfz22_0 := blk_frozen BK114.out 0; have hfz22_1 := blk_frozen BK114.out 1; have hfz22_2 := blk_frozen BK114.out 2; have hfz22_3 := blk_frozen BK114.out 3; have hfz22_4 := blk_frozen BK114.out 4; have hfz22_5 := blk_frozen BK114.out 5; have hfz22_6 := blk_frozen BK114.out 6))
   have n0_ : Aside0 ((((((((w17.setCell ⟨gb114, 0, none⟩ (.string t106)).setCell ⟨gb114, 1, none⟩ (.string t107)).setCell ⟨gb114, 2, none⟩ (.int .u32 t108)).setCell ⟨gb114, 3, none⟩ (.int .u32 t109)).setCell ⟨gb114, 4, none⟩ (.int .u32 t110)).setCell ⟨gb114, 5, none⟩ (.int .u32 t111)).setCell ⟨gb114, 6, none⟩ (.int .u32 t112)).heap[gb101]? = some (.cells #[.string a0_0, .slice (some ad104) l0_1.length c0_1, .int .i64 a0_2] 26 (0, 0))) := ⟨by (with_reducible repeat (first | refine blk_drewN ?_ _ | refine blk_drew ?_ | refine blk_alloc ?_ _)); refine blk_far ?_ NB101_114.out _; (with_reducible repeat (first | refine blk_drewN ?_ _ | refine blk_drew ?_ | refine blk_alloc ?_ _)); refine blk_far ?_ NB101_114.out _; (with_reducible repeat (first | refine blk_drewN ?_ _ | refine blk_drew ?_ | refine blk_alloc ?_ _)); refine blk_far ?_ NB101_114.out _; (with_reducible repeat (first | refine blk_drewN ?_ _ | refine blk_drew ?_ | refine blk_alloc ?_ _)); refine blk_far ?_ NB101_114.out _; (with_reducible repeat (first | refine blk_drewN ?_ _ | refine blk_drew ?_ | refine blk_alloc ?_ _)); refine blk_far ?_ NB101_114.out _; (with_reducible repeat (first | refine blk_drewN ?_ _ | refine blk_drew ?_ | refine blk_alloc ?_ _)); refine blk_far ?_ NB101_114.out _; (with_reducible repeat (first | refine blk_drewN ?_ _ | refine blk_drew ?_ | refine blk_alloc ?_ _)); refine blk_far ?_ NB101_114.out _; (with_reducible repeat (first | refine blk_drewN ?_ _ | refine blk_drew ?_ | refine blk_alloc ?_ _)); exact BK101.out⟩
   have n1_ : Aside0 ((((((((w17.setCell ⟨gb114, 0, none⟩ (.string t106)).setCell ⟨gb114, 1, none⟩ (.string t107)).setCell ⟨gb114, 2, none⟩ (.int .u32 t108)).setCell ⟨gb114, 3, none⟩ (.int .u32 t109)).setCell ⟨gb114, 4, none⟩ (.int .u32 t110)).setCell ⟨gb114, 5, none⟩ (.int .u32 t111)).setCell ⟨gb114, 6, none⟩ (.int .u32 t112)).heap[gb102]? = some (.cells #[.string (⟨#[]⟩ : ByteArray), .int .i64 0, .int .i64 0, .int .i64 0, .string (⟨#[]⟩ : ByteArray)] 35 (0, 0))) := ⟨by (with_reducible repeat (first | refine blk_drewN ?_ _ | refine blk_drew ?_ | refine blk_alloc ?_ _)); refine blk_far ?_ NB102_114.out _; (with_reducible repeat (first | refine blk_drewN ?_ _ | refine blk_drew ?_ | refine blk_alloc ?_ _)); refine blk_far ?_ NB102_114.out _; (with_reducible repeat (first | refine blk_drewN ?_ _ | refine blk_drew ?_ | refine blk_alloc ?_ _)); refine blk_far ?_ NB102_114.out _; (with_reducible repeat (first | refine blk_drewN ?_ _ | refine blk_drew ?_ | refine blk_alloc ?_ _)); refine blk_far ?_ NB102_114.out _; (with_reducible repeat (first | refine blk_drewN ?_ _ | refine blk_drew ?_ | refine blk_alloc ?_ _)); refine blk_far ?_ NB102_114.out _; (with_reducible repeat (first | refine blk_drewN ?_ _ | refine blk_drew ?_ | refine blk_alloc ?_ _)); refine blk_far ?_ NB102_114.out _; (with_reducible repeat (first | refine blk_drewN ?_ _ | refine blk_drew ?_ | refine blk_alloc ?_ _)); refine blk_far ?_ NB102_114.out _; (with_reducible repeat (first | refine blk_drewN ?_ _ | refine blk_drew ?_ | refine blk_alloc ?_ _)); exact BK102.out⟩
   have n2_ : Aside0 ((((((((w17.setCell ⟨gb114, 0, none⟩ (.string t106)).setCell ⟨gb114, 1, none⟩ (.string t107)).setCell ⟨gb114, 2, none⟩ (.int .u32 t108)).setCell ⟨gb114, 3, none⟩ (.int .u32 t109)).setCell ⟨gb114, 4, none⟩ (.int .u32 t110)).setCell ⟨gb114, 5, none⟩ (.int .u32 t111)).setCell ⟨gb114, 6, none⟩ (.int .u32 t112)).heap[gb103]? = some (.cells #[.string (⟨#[]⟩ : ByteArray), .string (⟨#[]⟩ : ByteArray), .int .u32 0, .int .u32 0, .int .u32 0, .int .u32 0, .int .u32 0] 38 (0, 0))) := ⟨by (with_reducible repeat (first | refine blk_drewN ?_ _ | refine blk_drew ?_ | refine blk_alloc ?_ _)); refine blk_far ?_ NB103_114.out _; (with_reducible repeat (first | refine blk_drewN ?_ _ | refine blk_drew ?_ | refine blk_alloc ?_ _)); refine blk_far ?_ NB103_114.out _; (with_reducible repeat (first | refine blk_drewN ?_ _ | refine blk_drew ?_ | refine blk_alloc ?_ _)); refine blk_far ?_ NB103_114.out _; (with_reducible repeat (first | refine blk_drewN ?_ _ | refine blk_drew ?_ | refine blk_alloc ?_ _)); refine blk_far ?_ NB103_114.out _; (with_reducible repeat (first | refine blk_drewN ?_ _ | refine blk_drew ?_ | refine blk_alloc ?_ _)); refine blk_far ?_ NB103_114.out _; (with_reducible repeat (first | refine blk_drewN ?_ _ | refine blk_drew ?_ | refine blk_alloc ?_ _)); refine blk_far ?_ NB103_114.out _; (with_reducible repeat (first | refine blk_drewN ?_ _ | refine blk_drew ?_ | refine blk_alloc ?_ _)); refine blk_far ?_ NB103_114.out _; (with_reducible repeat (first | refine blk_drewN ?_ _ | refine blk_drew ?_ | refine blk_alloc ?_ _)); exact BK103.out⟩
   have n3_ : Aside0 ((((((((w17.setCell ⟨gb114, 0, none⟩ (.string t106)).setCell ⟨gb114, 1, none⟩ (.string t107)).setCell ⟨gb114, 2, none⟩ (.int .u32 t108)).setCell ⟨gb114, 3, none⟩ (.int .u32 t109)).setCell ⟨gb114, 4, none⟩ (.int .u32 t110)).setCell ⟨gb114, 5, none⟩ (.int .u32 t111)).setCell ⟨gb114, 6, none⟩ (.int .u32 t112)).heap[gb105]? = some (.cells #[.string ((rd_T35 l0_1 a0_2).f0), .int .i64 ((rd_T35 l0_1 a0_2).f1), .int .i64 ((rd_T35 l0_1 a0_2).f2), .int .i64 ((rd_T35 l0_1 a0_2).f3), .string ((rd_T35 l0_1 a0_2).f4)] 35 (0, 0))) := ⟨by (with_reducible repeat (first | refine blk_drewN ?_ _ | refine blk_drew ?_ | refine blk_alloc ?_ _)); refine blk_far ?_ NB105_114.out _; (with_reducible repeat (first | refine blk_drewN ?_ _ | refine blk_drew ?_ | refine blk_alloc ?_ _)); refine blk_far ?_ NB105_114.out _; (with_reducible repeat (first | refine blk_drewN ?_ _ | refine blk_drew ?_ | refine blk_alloc ?_ _)); refine blk_far ?_ NB105_114.out _; (with_reducible repeat (first | refine blk_drewN ?_ _ | refine blk_drew ?_ | refine blk_alloc ?_ _)); refine blk_far ?_ NB105_114.out _; (with_reducible repeat (first | refine blk_drewN ?_ _ | refine blk_drew ?_ | refine blk_alloc ?_ _)); refine blk_far ?_ NB105_114.out _; (with_reducible repeat (first | refine blk_drewN ?_ _ | refine blk_drew ?_ | refine blk_alloc ?_ _)); refine blk_far ?_ NB105_114.out _; (with_reducible repeat (first | refine blk_drewN ?_ _ | refine blk_drew ?_ | refine blk_alloc ?_ _)); refine blk_far ?_ NB105_114.out _; (with_reducible repeat (first | refine blk_drewN ?_ _ | refine blk_drew ?_ | refine blk_alloc ?_ _)); exact BK105.out⟩
   have n4_ : Aside0 ((((((((w17.setCell ⟨gb114, 0, none⟩ (.string t106)).setCell ⟨gb114, 1, none⟩ (.string t107)).setCell ⟨gb114, 2, none⟩ (.int .u32 t108)).setCell ⟨gb114, 3, none⟩ (.int .u32 t109)).setCell ⟨gb114, 4, none⟩ (.int .u32 t110)).setCell ⟨gb114, 5, none⟩ (.int .u32 t111)).setCell ⟨gb114, 6, none⟩ (.int .u32 t112)).heap[gb114]? = some (.cells #[.string t106, .string t107, .int .u32 t108, .int .u32 t109, .int .u32 t110, .int .u32 t111, .int .u32 t112] 38 (0, 0))) := ⟨by (with_reducible repeat (first | refine blk_drewN ?_ _ | refine blk_drew ?_ | refine blk_alloc ?_ _)); refine blk_put (cs := #[.string t106, .string t107, .int .u32 t108, .int .u32 t109, .int .u32 t110, .int .u32 t111, .int .u32 0]) ?_ 6 _ rfl; (with_reducible repeat (first | refine blk_drewN ?_ _ | refine blk_drew ?_ | refine blk_alloc ?_ _)); refine blk_put (cs := #[.string t106, .string t107, .int .u32 t108, .int .u32 t109, .int .u32 t110, .int .u32 0, .int .u32 0]) ?_ 5 _ rfl; (with_reducible repeat (first | refine blk_drewN ?_ _ | refine blk_drew ?_ | refine blk_alloc ?_ _)); refine blk_put (cs := #[.string t106, .string t107, .int .u32 t108, .int .u32 t109, .int .u32 0, .int .u32 0, .int .u32 0]) ?_ 4 _ rfl; (with_reducible repeat (first | refine blk_drewN ?_ _ | refine blk_drew ?_ | refine blk_alloc ?_ _)); refine blk_put (cs := #[.string t106, .string t107, .int .u32 t108, .int .u32 0, .int .u32 0, .int .u32 0, .int .u32 0]) ?_ 3 _ rfl; (with_reducible repeat (first | refine blk_drewN ?_ _ | refine blk_drew ?_ | refine blk_alloc ?_ _)); refine blk_put (cs := #[.string t106, .string t107, .int .u32 0, .int .u32 0, .int .u32 0, .int .u32 0, .int .u32 0]) ?_ 2 _ rfl; (with_reducible repeat (first | refine blk_drewN ?_ _ | refine blk_drew ?_ | refine blk_alloc ?_ _)); refine blk_put (cs := #[.string t106, .string (⟨#[]⟩ : ByteArray), .int .u32 0, .int .u32 0, .int .u32 0, .int .u32 0, .int .u32 0]) ?_ 1 _ rfl; (with_reducible repeat (first | refine blk_drewN ?_ _ | refine blk_drew ?_ | refine blk_alloc ?_ _)); refine blk_put (cs := #[.string (⟨#[]⟩ : ByteArray), .string (⟨#[]⟩ : ByteArray), .int .u32 0, .int .u32 0, .int .u32 0, .int .u32 0, .int .u32 0]) ?_ 0 _ rfl; (with_reducible repeat (first | refine blk_drewN ?_ _ | refine blk_drew ?_ | refine blk_alloc ?_ _)); exact BK114.out⟩
   have n5_ : Aside0 (Below w.heap.size w (((((((w17.setCell ⟨gb114, 0, none⟩ (.string t106)).setCell ⟨gb114, 1, none⟩ (.string t107)).setCell ⟨gb114, 2, none⟩ (.int .u32 t108)).setCell ⟨gb114, 3, none⟩ (.int .u32 t109)).setCell ⟨gb114, 4, none⟩ (.int .u32 t110)).setCell ⟨gb114, 5, none⟩ (.int .u32 t111)).setCell ⟨gb114, 6, none⟩ (.int .u32 t112))) := ⟨by repeat (first | (with_reducible first | exact HB.out | apply below_alloc | apply pw_below_drewN | apply below_drew1 | refine below_set ?_ GE101.out | refine below_set ?_ GE102.out | refine below_set ?_ GE103.out | refine below_set ?_ GE105.out | refine below_set ?_ GE114.out) | exact HB.out)⟩
   (try clear BK101)
   (try clear BK102)
   (try clear BK103)
   (try clear BK105)
   (try clear BK114)
   (try clear HB)
   generalize (((((((w17.setCell ⟨gb114, 0, none⟩ (.string t106)).setCell ⟨gb114, 1, none⟩ (.string t107)).setCell ⟨gb114, 2, none⟩ (.int .u32 t108)).setCell ⟨gb114, 3, none⟩ (.int .u32 t109)).setCell ⟨gb114, 4, none⟩ (.int .u32 t110)).setCell ⟨gb114, 5, none⟩ (.int .u32 t111)).setCell ⟨gb114, 6, none⟩ (.int .u32 t112)) = w23 at n0_ n1_ n2_ n3_ n4_ n5_ ⊢
   have BK101 := n0_
   have BK102 := n1_
   have BK103 := n2_
   have BK105 := n3_
   have BK114 := n4_
   have HB := n5_
   clear n0_ n1_ n2_ n3_ n4_ n5_
   have n0_ := Aside0.mk (blk_drew BK101.out)
   have n1_ := Aside0.mk (blk_drew BK102.out)
   have n2_ := Aside0.mk (blk_drew BK103.out)
   have n3_ := Aside0.mk (blk_drew BK105.out)
   have n4_ := Aside0.mk (blk_drew BK114.out)
   have n5_ := Aside0.mk (below_drew1 HB.out)
   clear BK101
   clear BK102
   clear BK103
   clear BK105
   clear BK114
   clear HB
   have BK101 := n0_
   have BK102 := n1_
   have BK103 := n2_
   have BK105 := n3_
   have BK114 := n4_
   have HB := n5_
   clear n0_ n1_ n2_ n3_ n4_ n5_
   refine start_ (n := 4) (S := fun w' => w'.cell? ⟨gb105, 0, none⟩ = some (.string ((rd_T35 l0_1 a0_2).f0)) ∧ w'.cell? ⟨gb105, 1, none⟩ = some (.int .i64 ((rd_T35 l0_1 a0_2).f1)) ∧ w'.cell? ⟨gb105, 2, none⟩ = some (.int .i64 ((rd_T35 l0_1 a0_2).f2)) ∧ w'.cell? ⟨gb105, 3, none⟩ = some (.int .i64 ((rd_T35 l0_1 a0_2).f3)) ∧ w'.cell? ⟨gb105, 4, none⟩ = some (.string ((rd_T35 l0_1 a0_2).f4)) ∧ w'.cell? ⟨gb114, 0, none⟩ = some (.string t106) ∧ w'.cell? ⟨gb114, 1, none⟩ = some (.string t107) ∧ w'.cell? ⟨gb114, 2, none⟩ = some (.int .u32 t108) ∧ w'.cell? ⟨gb114, 3, none⟩ = some (.int .u32 t109) ∧ w'.cell? ⟨gb114, 4, none⟩ = some (.int .u32 t110) ∧ w'.cell? ⟨gb114, 5, none⟩ = some (.int .u32 t111) ∧ w'.cell? ⟨gb114, 6, none⟩ = some (.int .u32 t112)) (ds := []) #[false, false, false, false] (by kernel_rfl) rfl rfl ⟨(blk_cell BK105.out 0).trans rfl, (blk_cell BK105.out 1).trans rfl, (blk_cell BK105.out 2).trans rfl, (blk_cell BK105.out 3).trans rfl, (blk_cell BK105.out 4).trans rfl, (blk_cell BK114.out 0).trans rfl, (blk_cell BK114.out 1).trans rfl, (blk_cell BK114.out 2).trans rfl, (blk_cell BK114.out 3).trans rfl, (blk_cell BK114.out 4).trans rfl, (blk_cell BK114.out 5).trans rfl, (blk_cell BK114.out 6).trans rfl⟩ (fun hHeld => ?_)
   generalize w23.drew = w24 at BK101 BK102 BK103 BK105 BK114 HB hHeld ⊢
   refine take_ (i := 0) (N := some 19) (v := ?_) (a' := ?_) #[true, false, false, false] rfl rfl (by kernel_rfl) (fun _ _ _ h => h) (Or.inl ⟨by rfl, ?_⟩) hHeld ?_ ?_
   rotate_left
   ·rintro w' ⟨s0, s1, s2, s3, s4, s5, s6, s7, s8, s9, s10, s11⟩
    go_simp
    with_reducible rfl
   rotate_left
   ·simp only [Act.put, List.setIfInBounds_toArray, List.set_cons_zero, List.set_cons_succ, i64_w, i32_w]
    rfl
   refine take_ (i := 1) (N := some 20) (v := ?_) (a' := ?_) #[true, true, false, false] rfl rfl (by kernel_rfl) (fun _ _ _ h => h) (Or.inl ⟨by rfl, ?_⟩) hHeld ?_ ?_
   rotate_left
   ·rintro w' ⟨s0, s1, s2, s3, s4, s5, s6, s7, s8, s9, s10, s11⟩
    go_simp
    with_reducible rfl
   rotate_left
   ·simp only [Act.put, List.setIfInBounds_toArray, List.set_cons_zero, List.set_cons_succ, i64_w, i32_w]
    rfl
   refine one_ (i := 2) (N := none) #[true, true, true, false] rfl rfl (by kernel_rfl) (by decide) (fun K hK => ?_)
   have hs25 : w24.cell? ⟨gb102, 0, none⟩ = some (.string (⟨#[]⟩ : ByteArray)) := (blk_cell BK102.out 0).trans rfl
   have hfs25 := blk_frozen BK102.out 0
   have hns25_0 := NB101_102.out
   have hns25_2 := NB103_102.out
   have hns25_3 := NB105_102.out
   have hns25_4 := NB114_102.out
   have hms25_0 := NB102_101.out
   have hms25_2 := NB102_103.out
   have hms25_3 := NB102_105.out
   have hms25_4 := NB102_114.out
   have hs26 : w24.cell? ⟨gb102, 1, none⟩ = some (.int .i64 0) := (blk_cell BK102.out 1).trans rfl
   have hfs26 := blk_frozen BK102.out 1
   have hns26_0 := NB101_102.out
   have hns26_2 := NB103_102.out
   have hns26_3 := NB105_102.out
   have hns26_4 := NB114_102.out
   have hms26_0 := NB102_101.out
   have hms26_2 := NB102_103.out
   have hms26_3 := NB102_105.out
   have hms26_4 := NB102_114.out
   have hs27 : w24.cell? ⟨gb102, 2, none⟩ = some (.int .i64 0) := (blk_cell BK102.out 2).trans rfl
   have hfs27 := blk_frozen BK102.out 2
   have hns27_0 := NB101_102.out
   have hns27_2 := NB103_102.out
   have hns27_3 := NB105_102.out
   have hns27_4 := NB114_102.out
   have hms27_0 := NB102_101.out
   have hms27_2 := NB102_103.out
   have hms27_3 := NB102_105.out
   have hms27_4 := NB102_114.out
   have hs28 : w24.cell? ⟨gb102, 3, none⟩ = some (.int .i64 0) := (blk_cell BK102.out 3).trans rfl
   have hfs28 := blk_frozen BK102.out 3
   have hns28_0 := NB101_102.out
   have hns28_2 := NB103_102.out
   have hns28_3 := NB105_102.out
   have hns28_4 := NB114_102.out
   have hms28_0 := NB102_101.out
   have hms28_2 := NB102_103.out
   have hms28_3 := NB102_105.out
   have hms28_4 := NB102_114.out
   have hs29 : w24.cell? ⟨gb102, 4, none⟩ = some (.string (⟨#[]⟩ : ByteArray)) := (blk_cell BK102.out 4).trans rfl
   have hfs29 := blk_frozen BK102.out 4
   have hns29_0 := NB101_102.out
   have hns29_2 := NB103_102.out
   have hns29_3 := NB105_102.out
   have hns29_4 := NB114_102.out
   have hms29_0 := NB102_101.out
   have hms29_2 := NB102_103.out
   have hms29_3 := NB102_105.out
   have hms29_4 := NB102_114.out
   refine skip_ (w1 := ?_) (by rfl) rfl ?_ ?_
   rotate_left
   ·go_simp
    rfl
   refine hK.out _ _ ⟨((cell_far (p := ⟨gb102, _, none⟩) NB105_102.out _).trans (((cell_far (p := ⟨gb102, _, none⟩) NB105_102.out _).trans (((cell_far (p := ⟨gb102, _, none⟩) NB105_102.out _).trans (((cell_far (p := ⟨gb102, _, none⟩) NB105_102.out _).trans (((cell_far (p := ⟨gb102, _, none⟩) NB105_102.out _).trans (hHeld.1)))))))))), ((cell_far (p := ⟨gb102, _, none⟩) NB105_102.out _).trans (((cell_far (p := ⟨gb102, _, none⟩) NB105_102.out _).trans (((cell_far (p := ⟨gb102, _, none⟩) NB105_102.out _).trans (((cell_far (p := ⟨gb102, _, none⟩) NB105_102.out _).trans (((cell_far (p := ⟨gb102, _, none⟩) NB105_102.out _).trans (hHeld.2.1)))))))))), ((cell_far (p := ⟨gb102, _, none⟩) NB105_102.out _).trans (((cell_far (p := ⟨gb102, _, none⟩) NB105_102.out _).trans (((cell_far (p := ⟨gb102, _, none⟩) NB105_102.out _).trans (((cell_far (p := ⟨gb102, _, none⟩) NB105_102.out _).trans (((cell_far (p := ⟨gb102, _, none⟩) NB105_102.out _).trans (hHeld.2.2.1)))))))))), ((cell_far (p := ⟨gb102, _, none⟩) NB105_102.out _).trans (((cell_far (p := ⟨gb102, _, none⟩) NB105_102.out _).trans (((cell_far (p := ⟨gb102, _, none⟩) NB105_102.out _).trans (((cell_far (p := ⟨gb102, _, none⟩) NB105_102.out _).trans (((cell_far (p := ⟨gb102, _, none⟩) NB105_102.out _).trans (hHeld.2.2.2.1)))))))))), ((cell_far (p := ⟨gb102, _, none⟩) NB105_102.out _).trans (((cell_far (p := ⟨gb102, _, none⟩) NB105_102.out _).trans (((cell_far (p := ⟨gb102, _, none⟩) NB105_102.out _).trans (((cell_far (p := ⟨gb102, _, none⟩) NB105_102.out _).trans (((cell_far (p := ⟨gb102, _, none⟩) NB105_102.out _).trans (hHeld.2.2.2.2.1)))))))))), ((cell_far (p := ⟨gb102, _, none⟩) NB114_102.out _).trans (((cell_far (p := ⟨gb102, _, none⟩) NB114_102.out _).trans (((cell_far (p := ⟨gb102, _, none⟩) NB114_102.out _).trans (((cell_far (p := ⟨gb102, _, none⟩) NB114_102.out _).trans (((cell_far (p := ⟨gb102, _, none⟩) NB114_102.out _).trans (hHeld.2.2.2.2.2.1)))))))))), ((cell_far (p := ⟨gb102, _, none⟩) NB114_102.out _).trans (((cell_far (p := ⟨gb102, _, none⟩) NB114_102.out _).trans (((cell_far (p := ⟨gb102, _, none⟩) NB114_102.out _).trans (((cell_far (p := ⟨gb102, _, none⟩) NB114_102.out _).trans (((cell_far (p := ⟨gb102, _, none⟩) NB114_102.out _).trans (hHeld.2.2.2.2.2.2.1)))))))))), ((cell_far (p := ⟨gb102, _, none⟩) NB114_102.out _).trans (((cell_far (p := ⟨gb102, _, none⟩) NB114_102.out _).trans (((cell_far (p := ⟨gb102, _, none⟩) NB114_102.out _).trans (((cell_far (p := ⟨gb102, _, none⟩) NB114_102.out _).trans (((cell_far (p := ⟨gb102, _, none⟩) NB114_102.out _).trans (hHeld.2.2.2.2.2.2.2.1)))))))))), ((cell_far (p := ⟨gb102, _, none⟩) NB114_102.out _).trans (((cell_far (p := ⟨gb102, _, none⟩) NB114_102.out _).trans (((cell_far (p := ⟨gb102, _, none⟩) NB114_102.out _).trans (((cell_far (p := ⟨gb102, _, none⟩) NB114_102.out _).trans (((cell_far (p := ⟨gb102, _, none⟩) NB114_102.out _).trans (hHeld.2.2.2.2.2.2.2.2.1)))))))))), ((cell_far (p := ⟨gb102, _, none⟩) NB114_102.out _).trans (((cell_far (p := ⟨gb102, _, none⟩) NB114_102.out _).trans (((cell_far (p := ⟨gb102, _, none⟩) NB114_102.out _).trans (((cell_far (p := ⟨gb102, _, none⟩) NB114_102.out _).trans (((cell_far (p := ⟨gb102, _, none⟩) NB114_102.out _).trans (hHeld.2.2.2.2.2.2.2.2.2.1)))))))))), ((cell_far (p := ⟨gb102, _, none⟩) NB114_102.out _).trans (((cell_far (p := ⟨gb102, _, none⟩) NB114_102.out _).trans (((cell_far (p := ⟨gb102, _, none⟩) NB114_102.out _).trans (((cell_far (p := ⟨gb102, _, none⟩) NB114_102.out _).trans (((cell_far (p := ⟨gb102, _, none⟩) NB114_102.out _).trans (hHeld.2.2.2.2.2.2.2.2.2.2.1)))))))))), ((cell_far (p := ⟨gb102, _, none⟩) NB114_102.out _).trans (((cell_far (p := ⟨gb102, _, none⟩) NB114_102.out _).trans (((cell_far (p := ⟨gb102, _, none⟩) NB114_102.out _).trans (((cell_far (p := ⟨gb102, _, none⟩) NB114_102.out _).trans (((cell_far (p := ⟨gb102, _, none⟩) NB114_102.out _).trans (hHeld.2.2.2.2.2.2.2.2.2.2.2))))))))))⟩ (fun hHeld => ?_)
   clear hK K
   refine one_ (i := 3) (N := none) #[true, true, true, true] rfl rfl (by kernel_rfl) (by decide) (fun K hK => ?_)
   have hs30 : w24.cell? ⟨gb103, 0, none⟩ = some (.string (⟨#[]⟩ : ByteArray)) := (blk_cell BK103.out 0).trans rfl
   have hfs30 := blk_frozen BK103.out 0
   have hns30_0 := NB101_103.out
   have hns30_1 := NB102_103.out
   have hns30_3 := NB105_103.out
   have hns30_4 := NB114_103.out
   have hms30_0 := NB103_101.out
   have hms30_1 := NB103_102.out
   have hms30_3 := NB103_105.out
   have hms30_4 := NB103_114.out
   have hs31 : w24.cell? ⟨gb103, 1, none⟩ = some (.string (⟨#[]⟩ : ByteArray)) := (blk_cell BK103.out 1).trans rfl
   have hfs31 := blk_frozen BK103.out 1
   have hns31_0 := NB101_103.out
   have hns31_1 := NB102_103.out
   have hns31_3 := NB105_103.out
   have hns31_4 := NB114_103.out
   have hms31_0 := NB103_101.out
   have hms31_1 := NB103_102.out
   have hms31_3 := NB103_105.out
   have hms31_4 := NB103_114.out
   have hs32 : w24.cell? ⟨gb103, 2, none⟩ = some (.int .u32 0) := (blk_cell BK103.out 2).trans rfl
   have hfs32 := blk_frozen BK103.out 2
   have hns32_0 := NB101_103.out
   have hns32_1 := NB102_103.out
   have hns32_3 := NB105_103.out
   have hns32_4 := NB114_103.out
   have hms32_0 := NB103_101.out
   have hms32_1 := NB103_102.out
   have hms32_3 := NB103_105.out
   have hms32_4 := NB103_114.out
   have hs33 : w24.cell? ⟨gb103, 3, none⟩ = some (.int .u32 0) := (blk_cell BK103.out 3).trans rfl
   have hfs33 := blk_frozen BK103.out 3
   have hns33_0 := NB101_103.out
   have hns33_1 := NB102_103.out
   have hns33_3 := NB105_103.out
   have hns33_4 := NB114_103.out
   have hms33_0 := NB103_101.out
   have hms33_1 := NB103_102.out
   have hms33_3 := NB103_105.out
   have hms33_4 := NB103_114.out
   have hs34 : w24.cell? ⟨gb103, 4, none⟩ = some (.int .u32 0) := (blk_cell BK103.out 4).trans rfl
   have hfs34 := blk_frozen BK103.out 4
   have hns34_0 := NB101_103.out
   have hns34_1 := NB102_103.out
   have hns34_3 := NB105_103.out
   have hns34_4 := NB114_103.out
   have hms34_0 := NB103_101.out
   have hms34_1 := NB103_102.out
   have hms34_3 := NB103_105.out
   have hms34_4 := NB103_114.out
   have hs35 : w24.cell? ⟨gb103, 5, none⟩ = some (.int .u32 0) := (blk_cell BK103.out 5).trans rfl
   have hfs35 := blk_frozen BK103.out 5
   have hns35_0 := NB101_103.out
   have hns35_1 := NB102_103.out
   have hns35_3 := NB105_103.out
   have hns35_4 := NB114_103.out
   have hms35_0 := NB103_101.out
   have hms35_1 := NB103_102.out
   have hms35_3 := NB103_105.out
   have hms35_4 := NB103_114.out
   have hs36 : w24.cell? ⟨gb103, 6, none⟩ = some (.int .u32 0) := (blk_cell BK103.out 6).trans rfl
   have hfs36 := blk_frozen BK103.out 6
   have hns36_0 := NB101_103.out
   have hns36_1 := NB102_103.out
   have hns36_3 := NB105_103.out
   have hns36_4 := NB114_103.out
   have hms36_0 := NB103_101.out
   have hms36_1 := NB103_102.out
   have hms36_3 := NB103_105.out
   have hms36_4 := NB103_114.out
   refine skip_ (w1 := ?_) (by rfl) rfl ?_ ?_
   rotate_left
   ·go_simp
    rfl
   refine hK.out _ _ ⟨((cell_far (p := ⟨gb103, _, none⟩) NB105_103.out _).trans (((cell_far (p := ⟨gb103, _, none⟩) NB105_103.out _).trans (((cell_far (p := ⟨gb103, _, none⟩) NB105_103.out _).trans (((cell_far (p := ⟨gb103, _, none⟩) NB105_103.out _).trans (((cell_far (p := ⟨gb103, _, none⟩) NB105_103.out _).trans (((cell_far (p := ⟨gb103, _, none⟩) NB105_103.out _).trans (((cell_far (p := ⟨gb103, _, none⟩) NB105_103.out _).trans (hHeld.1)))))))))))))), ((cell_far (p := ⟨gb103, _, none⟩) NB105_103.out _).trans (((cell_far (p := ⟨gb103, _, none⟩) NB105_103.out _).trans (((cell_far (p := ⟨gb103, _, none⟩) NB105_103.out _).trans (((cell_far (p := ⟨gb103, _, none⟩) NB105_103.out _).trans (((cell_far (p := ⟨gb103, _, none⟩) NB105_103.out _).trans (((cell_far (p := ⟨gb103, _, none⟩) NB105_103.out _).trans (((cell_far (p := ⟨gb103, _, none⟩) NB105_103.out _).trans (hHeld.2.1)))))))))))))), ((cell_far (p := ⟨gb103, _, none⟩) NB105_103.out _).trans (((cell_far (p := ⟨gb103, _, none⟩) NB105_103.out _).trans (((cell_far (p := ⟨gb103, _, none⟩) NB105_103.out _).trans (((cell_far (p := ⟨gb103, _, none⟩) NB105_103.out _).trans (((cell_far (p := ⟨gb103, _, none⟩) NB105_103.out _).trans (((cell_far (p := ⟨gb103, _, none⟩) NB105_103.out _).trans (((cell_far (p := ⟨gb103, _, none⟩) NB105_103.out _).trans (hHeld.2.2.1)))))))))))))), ((cell_far (p := ⟨gb103, _, none⟩) NB105_103.out _).trans (((cell_far (p := ⟨gb103, _, none⟩) NB105_103.out _).trans (((cell_far (p := ⟨gb103, _, none⟩) NB105_103.out _).trans (((cell_far (p := ⟨gb103, _, none⟩) NB105_103.out _).trans (((cell_far (p := ⟨gb103, _, none⟩) NB105_103.out _).trans (((cell_far (p := ⟨gb103, _, none⟩) NB105_103.out _).trans (((cell_far (p := ⟨gb103, _, none⟩) NB105_103.out _).trans (hHeld.2.2.2.1)))))))))))))), ((cell_far (p := ⟨gb103, _, none⟩) NB105_103.out _).trans (((cell_far (p := ⟨gb103, _, none⟩) NB105_103.out _).trans (((cell_far (p := ⟨gb103, _, none⟩) NB105_103.out _).trans (((cell_far (p := ⟨gb103, _, none⟩) NB105_103.out _).trans (((cell_far (p := ⟨gb103, _, none⟩) NB105_103.out _).trans (((cell_far (p := ⟨gb103, _, none⟩) NB105_103.out _).trans (((cell_far (p := ⟨gb103, _, none⟩) NB105_103.out _).trans (hHeld.2.2.2.2.1)))))))))))))), ((cell_far (p := ⟨gb103, _, none⟩) NB114_103.out _).trans (((cell_far (p := ⟨gb103, _, none⟩) NB114_103.out _).trans (((cell_far (p := ⟨gb103, _, none⟩) NB114_103.out _).trans (((cell_far (p := ⟨gb103, _, none⟩) NB114_103.out _).trans (((cell_far (p := ⟨gb103, _, none⟩) NB114_103.out _).trans (((cell_far (p := ⟨gb103, _, none⟩) NB114_103.out _).trans (((cell_far (p := ⟨gb103, _, none⟩) NB114_103.out _).trans (hHeld.2.2.2.2.2.1)))))))))))))), ((cell_far (p := ⟨gb103, _, none⟩) NB114_103.out _).trans (((cell_far (p := ⟨gb103, _, none⟩) NB114_103.out _).trans (((cell_far (p := ⟨gb103, _, none⟩) NB114_103.out _).trans (((cell_far (p := ⟨gb103, _, none⟩) NB114_103.out _).trans (((cell_far (p := ⟨gb103, _, none⟩) NB114_103.out _).trans (((cell_far (p := ⟨gb103, _, none⟩) NB114_103.out _).trans (((cell_far (p := ⟨gb103, _, none⟩) NB114_103.out _).trans (hHeld.2.2.2.2.2.2.1)))))))))))))), ((cell_far (p := ⟨gb103, _, none⟩) NB114_103.out _).trans (((cell_far (p := ⟨gb103, _, none⟩) NB114_103.out _).trans (((cell_far (p := ⟨gb103, _, none⟩) NB114_103.out _).trans (((cell_far (p := ⟨gb103, _, none⟩) NB114_103.out _).trans (((cell_far (p := ⟨gb103, _, none⟩) NB114_103.out _).trans (((cell_far (p := ⟨gb103, _, none⟩) NB114_103.out _).trans (((cell_far (p := ⟨gb103, _, none⟩) NB114_103.out _).trans (hHeld.2.2.2.2.2.2.2.1)))))))))))))), ((cell_far (p := ⟨gb103, _, none⟩) NB114_103.out _).trans (((cell_far (p := ⟨gb103, _, none⟩) NB114_103.out _).trans (((cell_far (p := ⟨gb103, _, none⟩) NB114_103.out _).trans (((cell_far (p := ⟨gb103, _, none⟩) NB114_103.out _).trans (((cell_far (p := ⟨gb103, _, none⟩) NB114_103.out _).trans (((cell_far (p := ⟨gb103, _, none⟩) NB114_103.out _).trans (((cell_far (p := ⟨gb103, _, none⟩) NB114_103.out _).trans (hHeld.2.2.2.2.2.2.2.2.1)))))))))))))), ((cell_far (p := ⟨gb103, _, none⟩) NB114_103.out _).trans (((cell_far (p := ⟨gb103, _, none⟩) NB114_103.out _).trans (((cell_far (p := ⟨gb103, _, none⟩) NB114_103.out _).trans (((cell_far (p := ⟨gb103, _, none⟩) NB114_103.out _).trans (((cell_far (p := ⟨gb103, _, none⟩) NB114_103.out _).trans (((cell_far (p := ⟨gb103, _, none⟩) NB114_103.out _).trans (((cell_far (p := ⟨gb103, _, none⟩) NB114_103.out _).trans (hHeld.2.2.2.2.2.2.2.2.2.1)))))))))))))), ((cell_far (p := ⟨gb103, _, none⟩) NB114_103.out _).trans (((cell_far (p := ⟨gb103, _, none⟩) NB114_103.out _).trans (((cell_far (p := ⟨gb103, _, none⟩) NB114_103.out _).trans (((cell_far (p := ⟨gb103, _, none⟩) NB114_103.out _).trans (((cell_far (p := ⟨gb103, _, none⟩) NB114_103.out _).trans (((cell_far (p := ⟨gb103, _, none⟩) NB114_103.out _).trans (((cell_far (p := ⟨gb103, _, none⟩) NB114_103.out _).trans (hHeld.2.2.2.2.2.2.2.2.2.2.1)))))))))))))), ((cell_far (p := ⟨gb103, _, none⟩) NB114_103.out _).trans (((cell_far (p := ⟨gb103, _, none⟩) NB114_103.out _).trans (((cell_far (p := ⟨gb103, _, none⟩) NB114_103.out _).trans (((cell_far (p := ⟨gb103, _, none⟩) NB114_103.out _).trans (((cell_far (p := ⟨gb103, _, none⟩) NB114_103.out _).trans (((cell_far (p := ⟨gb103, _, none⟩) NB114_103.out _).trans (((cell_far (p := ⟨gb103, _, none⟩) NB114_103.out _).trans (hHeld.2.2.2.2.2.2.2.2.2.2.2))))))))))))))⟩ (fun hHeld => ?_)
   clear hK K
   refine done_ (by kernel_rfl) ?_
   try go_wp2
   refine bodyPost_ret (results_cc rfl _ _ gb102 gb103 35 38 #[.string ((rd_T35 l0_1 a0_2).f0), .int .i64 ((rd_T35 l0_1 a0_2).f1), .int .i64 ((rd_T35 l0_1 a0_2).f2), .int .i64 ((rd_T35 l0_1 a0_2).f3), .string ((rd_T35 l0_1 a0_2).f4)] #[.string t106, .string t107, .int .u32 t108, .int .u32 t109, .int .u32 t110, .int .u32 t111, .int .u32 t112] (0, 0) (0, 0) _ _ rfl (by (with_reducible repeat (first | refine blk_drewN ?_ _ | refine blk_drew ?_ | refine blk_alloc ?_ _)); refine blk_far ?_ NB102_103.out _; (with_reducible repeat (first | refine blk_drewN ?_ _ | refine blk_drew ?_ | refine blk_alloc ?_ _)); refine blk_far ?_ NB102_103.out _; (with_reducible repeat (first | refine blk_drewN ?_ _ | refine blk_drew ?_ | refine blk_alloc ?_ _)); refine blk_far ?_ NB102_103.out _; (with_reducible repeat (first | refine blk_drewN ?_ _ | refine blk_drew ?_ | refine blk_alloc ?_ _)); refine blk_far ?_ NB102_103.out _; (with_reducible repeat (first | refine blk_drewN ?_ _ | refine blk_drew ?_ | refine blk_alloc ?_ _)); refine blk_far ?_ NB102_103.out _; (with_reducible repeat (first | refine blk_drewN ?_ _ | refine blk_drew ?_ | refine blk_alloc ?_ _)); refine blk_far ?_ NB102_103.out _; (with_reducible repeat (first | refine blk_drewN ?_ _ | refine blk_drew ?_ | refine blk_alloc ?_ _)); refine blk_far ?_ NB102_103.out _; (with_reducible repeat (first | refine blk_drewN ?_ _ | refine blk_drew ?_ | refine blk_alloc ?_ _)); refine blk_put (cs := #[.string ((rd_T35 l0_1 a0_2).f0), .int .i64 ((rd_T35 l0_1 a0_2).f1), .int .i64 ((rd_T35 l0_1 a0_2).f2), .int .i64 ((rd_T35 l0_1 a0_2).f3), .string (⟨#[]⟩ : ByteArray)]) ?_ 4 _ rfl; (with_reducible repeat (first | refine blk_drewN ?_ _ | refine blk_drew ?_ | refine blk_alloc ?_ _)); refine blk_put (cs := #[.string ((rd_T35 l0_1 a0_2).f0), .int .i64 ((rd_T35 l0_1 a0_2).f1), .int .i64 ((rd_T35 l0_1 a0_2).f2), .int .i64 0, .string (⟨#[]⟩ : ByteArray)]) ?_ 3 _ rfl; (with_reducible repeat (first | refine blk_drewN ?_ _ | refine blk_drew ?_ | refine blk_alloc ?_ _)); refine blk_put (cs := #[.string ((rd_T35 l0_1 a0_2).f0), .int .i64 ((rd_T35 l0_1 a0_2).f1), .int .i64 0, .int .i64 0, .string (⟨#[]⟩ : ByteArray)]) ?_ 2 _ rfl; (with_reducible repeat (first | refine blk_drewN ?_ _ | refine blk_drew ?_ | refine blk_alloc ?_ _)); refine blk_put (cs := #[.string ((rd_T35 l0_1 a0_2).f0), .int .i64 0, .int .i64 0, .int .i64 0, .string (⟨#[]⟩ : ByteArray)]) ?_ 1 _ rfl; (with_reducible repeat (first | refine blk_drewN ?_ _ | refine blk_drew ?_ | refine blk_alloc ?_ _)); refine blk_put (cs := #[.string (⟨#[]⟩ : ByteArray), .int .i64 0, .int .i64 0, .int .i64 0, .string (⟨#[]⟩ : ByteArray)]) ?_ 0 _ rfl; (with_reducible repeat (first | refine blk_drewN ?_ _ | refine blk_drew ?_ | refine blk_alloc ?_ _)); exact BK102.out) Tryz.underlying35 rfl (by kernel_rfl) rfl (by (with_reducible repeat (first | refine blk_drewN ?_ _ | refine blk_drew ?_ | refine blk_alloc ?_ _)); refine blk_put (cs := #[.string t106, .string t107, .int .u32 t108, .int .u32 t109, .int .u32 t110, .int .u32 t111, .int .u32 0]) ?_ 6 _ rfl; (with_reducible repeat (first | refine blk_drewN ?_ _ | refine blk_drew ?_ | refine blk_alloc ?_ _)); refine blk_put (cs := #[.string t106, .string t107, .int .u32 t108, .int .u32 t109, .int .u32 t110, .int .u32 0, .int .u32 0]) ?_ 5 _ rfl; (with_reducible repeat (first | refine blk_drewN ?_ _ | refine blk_drew ?_ | refine blk_alloc ?_ _)); refine blk_put (cs := #[.string t106, .string t107, .int .u32 t108, .int .u32 t109, .int .u32 0, .int .u32 0, .int .u32 0]) ?_ 4 _ rfl; (with_reducible repeat (first | refine blk_drewN ?_ _ | refine blk_drew ?_ | refine blk_alloc ?_ _)); refine blk_put (cs := #[.string t106, .string t107, .int .u32 t108, .int .u32 0, .int .u32 0, .int .u32 0, .int .u32 0]) ?_ 3 _ rfl; (with_reducible repeat (first | refine blk_drewN ?_ _ | refine blk_drew ?_ | refine blk_alloc ?_ _)); refine blk_put (cs := #[.string t106, .string t107, .int .u32 0, .int .u32 0, .int .u32 0, .int .u32 0, .int .u32 0]) ?_ 2 _ rfl; (with_reducible repeat (first | refine blk_drewN ?_ _ | refine blk_drew ?_ | refine blk_alloc ?_ _)); refine blk_put (cs := #[.string t106, .string (⟨#[]⟩ : ByteArray), .int .u32 0, .int .u32 0, .int .u32 0, .int .u32 0, .int .u32 0]) ?_ 1 _ rfl; (with_reducible repeat (first | refine blk_drewN ?_ _ | refine blk_drew ?_ | refine blk_alloc ?_ _)); refine blk_put (cs := #[.string (⟨#[]⟩ : ByteArray), .string (⟨#[]⟩ : ByteArray), .int .u32 0, .int .u32 0, .int .u32 0, .int .u32 0, .int .u32 0]) ?_ 0 _ rfl; (with_reducible repeat (first | refine blk_drewN ?_ _ | refine blk_drew ?_ | refine blk_alloc ?_ _)); refine blk_far ?_ NB103_102.out _; (with_reducible repeat (first | refine blk_drewN ?_ _ | refine blk_drew ?_ | refine blk_alloc ?_ _)); refine blk_far ?_ NB103_102.out _; (with_reducible repeat (first | refine blk_drewN ?_ _ | refine blk_drew ?_ | refine blk_alloc ?_ _)); refine blk_far ?_ NB103_102.out _; (with_reducible repeat (first | refine blk_drewN ?_ _ | refine blk_drew ?_ | refine blk_alloc ?_ _)); refine blk_far ?_ NB103_102.out _; (with_reducible repeat (first | refine blk_drewN ?_ _ | refine blk_drew ?_ | refine blk_alloc ?_ _)); refine blk_far ?_ NB103_102.out _; (with_reducible repeat (first | refine blk_drewN ?_ _ | refine blk_drew ?_ | refine blk_alloc ?_ _)); exact BK103.out) Tryz.underlying38 rfl (by kernel_rfl)) rfl ?_
   exact ⟨by first | rfl | (simp [errW_none, errW_some] <;> rfl) | (simp [*, errW_none, errW_some] <;> rfl), by repeat (first | (with_reducible first | exact HB.out | apply below_alloc | apply pw_below_drewN | apply below_drew1 | refine below_set ?_ GE101.out | refine below_set ?_ GE102.out | refine below_set ?_ GE103.out | refine below_set ?_ GE105.out | refine below_set ?_ GE114.out) | exact HB.out)⟩
  ·rw [if_neg c3] at H
   exact absurd H (by simp)
 ·rw [if_neg c2] at H
  exact absurd H (by simp)
noncomputable def beadrollref14_Zone_Soa.f (k : Nat) (a0_0 : ByteArray) (l0_1 : List (S35)) : Option (ByteArray × Int × Int × Int × ByteArray × ByteArray × ByteArray × Int × Int × Int × Int × Int) := (beadrollref13_Typed.f k l0_1 6).bind fun t118 => (if 0 < (t118.length : Int) then ((beadrollref10_Soa.f k ((rd_T35 t118 0).f4)).bind fun bt123 => (some ((rd_T35 t118 0).f0, (rd_T35 t118 0).f1, (rd_T35 t118 0).f2, (rd_T35 t118 0).f3, (rd_T35 t118 0).f4, bt123.1, bt123.2.1, bt123.2.2.1, bt123.2.2.2.1, bt123.2.2.2.2.1, bt123.2.2.2.2.2.1, bt123.2.2.2.2.2.2.1))) else (none))
set_option maxHeartbeats 8000000 in
set_option maxRecDepth 100000 in
theorem beadrollref14_Zone_Soa.calls (k : Nat) (a0_0 : ByteArray) (A0_1 : Option Addr) (c0_1 : Nat) (l0_1 : List (S35)) (r1 : ByteArray) (r2 : Int) (r3 : Int) (r4 : Int) (r5 : ByteArray) (r6 : ByteArray) (r7 : ByteArray) (r8 : Int) (r9 : Int) (r10 : Int) (r11 : Int) (r12 : Int) (w : World) (hr0_1 : Kd.C k35 w A0_1 l0_1.length l0_1) (hc0_1 : l0_1.length ≤ c0_1) (h : beadrollref14_Zone_Soa.f k a0_0 l0_1 = some (r1, r2, r3, r4, r5, r6, r7, r8, r9, r10, r11, r12)) :
  Calls Tryz.prog 20 #[.agg #[.string a0_0, .slice A0_1 l0_1.length c0_1]] w fun e w' => e = .returned (.tuple #[.agg #[.string r1, .int .i64 r2, .int .i64 r3, .int .i64 r4, .string r5], .agg #[.string r6, .string r7, .int .u32 r8, .int .u32 r9, .int .u32 r10, .int .u32 r11, .int .u32 r12]]) ∧ Below w.heap.size w w' := by
 have hu31 := Tryz.underlying31
 have hu35 := Tryz.underlying35
 have hu38 := Tryz.underlying38
 have HR0_1 := Aside0.mk hr0_1
 have HC0_1 := Aside0.mk hc0_1
 clear hr0_1 hc0_1
 have HB := Aside0.mk (Below.refl w.heap.size w)
 have H : ((beadrollref13_Typed.f k l0_1 6).bind fun t118 => (if 0 < (t118.length : Int) then ((beadrollref10_Soa.f k ((rd_T35 t118 0).f4)).bind fun bt123 => (some ((rd_T35 t118 0).f0, (rd_T35 t118 0).f1, (rd_T35 t118 0).f2, (rd_T35 t118 0).f3, (rd_T35 t118 0).f4, bt123.1, bt123.2.1, bt123.2.2.1, bt123.2.2.2.1, bt123.2.2.2.2.1, bt123.2.2.2.2.2.1, bt123.2.2.2.2.2.2.1))) else (none))) = some (r1, r2, r3, r4, r5, r6, r7, r8, r9, r10, r11, r12) := h
 clear h
 replace H := Option.bind_eq_some_iff.mp H
 obtain ⟨t118, A20, H⟩ := H
 replace H : (if 0 < (t118.length : Int) then ((beadrollref10_Soa.f k ((rd_T35 t118 0).f4)).bind fun bt123 => (some ((rd_T35 t118 0).f0, (rd_T35 t118 0).f1, (rd_T35 t118 0).f2, (rd_T35 t118 0).f3, (rd_T35 t118 0).f4, bt123.1, bt123.2.1, bt123.2.2.1, bt123.2.2.2.1, bt123.2.2.2.2.1, bt123.2.2.2.2.2.1, bt123.2.2.2.2.2.2.1))) else (none)) = some (r1, r2, r3, r4, r5, r6, r7, r8, r9, r10, r11, r12) := H
 have A2 := Aside0.mk A20
 clear A20
 by_cases c3 : 0 < (t118.length : Int)
 ·rw [if_pos c3] at H
  have c3b0 : decide (0 < (t118.length : Int)) = true := decide_eq_true c3
  have c3b1 : decide (0 < t118.length) = true := decide_eq_true (by omega)
  clear c3
  replace H := Option.bind_eq_some_iff.mp H
  obtain ⟨⟨t123, t124, t125, t126, t127, t128, t129, t130⟩, A40, H⟩ := H
  replace H : (some ((rd_T35 t118 0).f0, (rd_T35 t118 0).f1, (rd_T35 t118 0).f2, (rd_T35 t118 0).f3, (rd_T35 t118 0).f4, t123, t124, t125, t126, t127, t128, t129)) = some (r1, r2, r3, r4, r5, r6, r7, r8, r9, r10, r11, r12) := H
  have A4 := Aside0.mk A40
  clear A40
  simp only [Option.some.injEq, Prod.mk.injEq] at H
  obtain ⟨rfl, rfl, rfl, rfl, rfl, rfl, rfl, rfl, rfl, rfl, rfl, rfl⟩ := H
  go_enter Tryz.func20, Tryz.ntmps20
  try go_wp2_with (first | ((with_reducible refine gate_dst (N := 1) rfl ?_); refine box_event ?hg (N := 1) ?hd (cs := #[.string a0_0, .slice A0_1 l0_1.length c0_1]) (t := 31) ?hr ?_; (case hd => rfl); (case hg => rfl); (case hr => first | (go_simp; done) | (go_simp; rfl)); intro gb115 hg w5 hbox hb; have n0_ := Aside0.mk (below_step (by repeat (first | (with_reducible first | exact HB.out | apply below_alloc | apply pw_below_drewN | apply below_drew1) | exact HB.out)) hb); have n1_ := Aside0.mk (hbox); have n2_ := Aside0.mk ((by rw [hg]; exact (below_size (by repeat (first | (with_reducible first | exact HB.out | apply below_alloc | apply pw_below_drewN | apply below_drew1) | exact HB.out))) : w.heap.size ≤ gb115)); have n3_ := Aside0.mk ((by rw [hg]; exact (below_size (by repeat (first | (with_reducible first | exact HB.out | apply below_alloc | apply pw_below_drewN | apply below_drew1) | exact HB.out))) : w.heap.size ≤ gb115)); clear HB; have HB := n0_; have BK115 := n1_; have GW115 := n2_; have GE115 := n3_; clear n0_ n1_ n2_ n3_; clear hb hbox hg) | ((with_reducible refine gate_dst (N := 2) rfl ?_); refine box_event ?hg (N := 2) ?hd (cs := #[.string (⟨#[]⟩ : ByteArray), .int .i64 0, .int .i64 0, .int .i64 0, .string (⟨#[]⟩ : ByteArray)]) (t := 35) ?hr ?_; (case hd => rfl); (case hg => rfl); (case hr => first | (go_simp; done) | (go_simp; rfl)); intro gb116 hg w6 hbox hb; have n0_ := Aside0.mk (blk_below (g := gb115) (o := .cells #[.string a0_0, .slice A0_1 l0_1.length c0_1] 31 (0, 0)) (by (with_reducible repeat (first | refine blk_drewN ?_ _ | refine blk_drew ?_ | refine blk_alloc ?_ _)); exact BK115.out) hb); have n1_ := Aside0.mk (below_step (by repeat (first | (with_reducible first | exact HB.out | apply below_alloc | apply pw_below_drewN | apply below_drew1 | refine below_set ?_ GE115.out) | exact HB.out)) hb); have n2_ := Aside0.mk (hbox); have n3_ := Aside0.mk ((by rw [hg]; exact (below_size (by repeat (first | (with_reducible first | exact HB.out | apply below_alloc | apply pw_below_drewN | apply below_drew1 | refine below_set ?_ GE115.out) | exact HB.out))) : w.heap.size ≤ gb116)); have n4_ := Aside0.mk ((by rw [hg]; exact (below_size (by repeat (first | (with_reducible first | exact HB.out | apply below_alloc | apply pw_below_drewN | apply below_drew1 | refine below_set ?_ GE115.out) | exact HB.out))) : w.heap.size ≤ gb116)); have n5_ := Aside0.mk ((by rw [hg]; exact Nat.ne_of_lt (blk_lt (g := gb115) (o := .cells #[.string a0_0, .slice A0_1 l0_1.length c0_1] 31 (0, 0)) (by (with_reducible repeat (first | refine blk_drewN ?_ _ | refine blk_drew ?_ | refine blk_alloc ?_ _)); exact BK115.out)) : gb115 ≠ gb116)); have n6_ := Aside0.mk ((by rw [hg]; exact Nat.ne_of_gt (blk_lt (g := gb115) (o := .cells #[.string a0_0, .slice A0_1 l0_1.length c0_1] 31 (0, 0)) (by (with_reducible repeat (first | refine blk_drewN ?_ _ | refine blk_drew ?_ | refine blk_alloc ?_ _)); exact BK115.out)) : gb116 ≠ gb115)); clear BK115; clear HB; have BK115 := n0_; have HB := n1_; have BK116 := n2_; have GW116 := n3_; have GE116 := n4_; have NB115_116 := n5_; have NB116_115 := n6_; clear n0_ n1_ n2_ n3_ n4_ n5_ n6_; clear hb hbox hg) | ((with_reducible refine gate_dst (N := 3) rfl ?_); refine box_event ?hg (N := 3) ?hd (cs := #[.string (⟨#[]⟩ : ByteArray), .string (⟨#[]⟩ : ByteArray), .int .u32 0, .int .u32 0, .int .u32 0, .int .u32 0, .int .u32 0]) (t := 38) ?hr ?_; (case hd => rfl); (case hg => rfl); (case hr => first | (go_simp; done) | (go_simp; rfl)); intro gb117 hg w7 hbox hb; have n0_ := Aside0.mk (blk_below (g := gb115) (o := .cells #[.string a0_0, .slice A0_1 l0_1.length c0_1] 31 (0, 0)) (by (with_reducible repeat (first | refine blk_drewN ?_ _ | refine blk_drew ?_ | refine blk_alloc ?_ _)); exact BK115.out) hb); have n1_ := Aside0.mk (blk_below (g := gb116) (o := .cells #[.string (⟨#[]⟩ : ByteArray), .int .i64 0, .int .i64 0, .int .i64 0, .string (⟨#[]⟩ : ByteArray)] 35 (0, 0)) (by (with_reducible repeat (first | refine blk_drewN ?_ _ | refine blk_drew ?_ | refine blk_alloc ?_ _)); exact BK116.out) hb); have n2_ := Aside0.mk (below_step (by repeat (first | (with_reducible first | exact HB.out | apply below_alloc | apply pw_below_drewN | apply below_drew1 | refine below_set ?_ GE115.out | refine below_set ?_ GE116.out) | exact HB.out)) hb); have n3_ := Aside0.mk (hbox); have n4_ := Aside0.mk ((by rw [hg]; exact (below_size (by repeat (first | (with_reducible first | exact HB.out | apply below_alloc | apply pw_below_drewN | apply below_drew1 | refine below_set ?_ GE115.out | refine below_set ?_ GE116.out) | exact HB.out))) : w.heap.size ≤ gb117)); have n5_ := Aside0.mk ((by rw [hg]; exact (below_size (by repeat (first | (with_reducible first | exact HB.out | apply below_alloc | apply pw_below_drewN | apply below_drew1 | refine below_set ?_ GE115.out | refine below_set ?_ GE116.out) | exact HB.out))) : w.heap.size ≤ gb117)); have n6_ := Aside0.mk ((by rw [hg]; exact Nat.ne_of_lt (blk_lt (g := gb115) (o := .cells #[.string a0_0, .slice A0_1 l0_1.length c0_1] 31 (0, 0)) (by (with_reducible repeat (first | refine blk_drewN ?_ _ | refine blk_drew ?_ | refine blk_alloc ?_ _)); exact BK115.out)) : gb115 ≠ gb117)); have n7_ := Aside0.mk ((by rw [hg]; exact Nat.ne_of_gt (blk_lt (g := gb115) (o := .cells #[.string a0_0, .slice A0_1 l0_1.length c0_1] 31 (0, 0)) (by (with_reducible repeat (first | refine blk_drewN ?_ _ | refine blk_drew ?_ | refine blk_alloc ?_ _)); exact BK115.out)) : gb117 ≠ gb115)); have n8_ := Aside0.mk ((by rw [hg]; exact Nat.ne_of_lt (blk_lt (g := gb116) (o := .cells #[.string (⟨#[]⟩ : ByteArray), .int .i64 0, .int .i64 0, .int .i64 0, .string (⟨#[]⟩ : ByteArray)] 35 (0, 0)) (by (with_reducible repeat (first | refine blk_drewN ?_ _ | refine blk_drew ?_ | refine blk_alloc ?_ _)); exact BK116.out)) : gb116 ≠ gb117)); have n9_ := Aside0.mk ((by rw [hg]; exact Nat.ne_of_gt (blk_lt (g := gb116) (o := .cells #[.string (⟨#[]⟩ : ByteArray), .int .i64 0, .int .i64 0, .int .i64 0, .string (⟨#[]⟩ : ByteArray)] 35 (0, 0)) (by (with_reducible repeat (first | refine blk_drewN ?_ _ | refine blk_drew ?_ | refine blk_alloc ?_ _)); exact BK116.out)) : gb117 ≠ gb116)); clear BK115; clear BK116; clear HB; have BK115 := n0_; have BK116 := n1_; have HB := n2_; have BK117 := n3_; have GW117 := n4_; have GE117 := n5_; have NB115_117 := n6_; have NB117_115 := n7_; have NB116_117 := n8_; have NB117_116 := n9_; clear n0_ n1_ n2_ n3_ n4_ n5_ n6_ n7_ n8_ n9_; clear hb hbox hg; have hnb8 := NB115_116.out; have hnc8 := NB116_115.out; have hnb9 := NB115_117.out; have hnc9 := NB117_115.out; have hcz10_0 : w7.cell? ⟨gb115, 0, none⟩ = some (.string a0_0) := (blk_cell BK115.out 0).trans rfl; have hcz10_1 : w7.cell? ⟨gb115, 1, none⟩ = some (.slice A0_1 l0_1.length c0_1) := (blk_cell BK115.out 1).trans rfl; have hfz10_0 := blk_frozen BK115.out 0; have hfz10_1 := blk_frozen BK115.out 1) | ((with_reducible refine gate_callee (f := 47) rfl ?_); refine goesL_ (some 9) rfl rfl Tryz.func47 (by kernel_rfl) rfl #[.slice A0_1 l0_1.length c0_1, .int .i64 6] rfl (by (try simp only [List.map_toArray, List.map_cons, List.map_nil]); first | done | rfl | (simp only [List.length_drop, List.length_take]; rfl)) ?_; (with_reducible refine (beadrollref13_Typed.calls k _ _ l0_1 6 t118 _ ?side1 ?side2 A2.out).mono ?_); (case side1 => repeat (first | exact (Kd.C_below HR0_1.out HB.out) | (with_reducible refine Kd.C_alloc ?_ _) | (with_reducible refine Kd.C_drewN ?_ _) | (with_reducible refine Kd.C_drew ?_))); (case side2 => exact HC0_1.out); rintro e w11 ⟨v119, rfl, ho0, hb⟩; refine ⟨_, rfl, ?_⟩; have n0_ := Aside0.mk (Kd.R_lower (Kd.R_newB ho0 (g := gb116) (o := .cells #[.string (⟨#[]⟩ : ByteArray), .int .i64 0, .int .i64 0, .int .i64 0, .string (⟨#[]⟩ : ByteArray)] 35 (0, 0)) (by (with_reducible repeat (first | refine blk_drewN ?_ _ | refine blk_drew ?_ | refine blk_alloc ?_ _)); exact BK116.out)) (below_size (by repeat (first | (with_reducible first | exact HB.out | apply below_alloc | apply pw_below_drewN | apply below_drew1 | refine below_set ?_ GE115.out | refine below_set ?_ GE116.out | refine below_set ?_ GE117.out) | exact HB.out)))); have n1_ := Aside0.mk (blk_below (g := gb115) (o := .cells #[.string a0_0, .slice A0_1 l0_1.length c0_1] 31 (0, 0)) (by (with_reducible repeat (first | refine blk_drewN ?_ _ | refine blk_drew ?_ | refine blk_alloc ?_ _)); exact BK115.out) hb); have n2_ := Aside0.mk (blk_below (g := gb116) (o := .cells #[.string (⟨#[]⟩ : ByteArray), .int .i64 0, .int .i64 0, .int .i64 0, .string (⟨#[]⟩ : ByteArray)] 35 (0, 0)) (by (with_reducible repeat (first | refine blk_drewN ?_ _ | refine blk_drew ?_ | refine blk_alloc ?_ _)); exact BK116.out) hb); have n3_ := Aside0.mk (blk_below (g := gb117) (o := .cells #[.string (⟨#[]⟩ : ByteArray), .string (⟨#[]⟩ : ByteArray), .int .u32 0, .int .u32 0, .int .u32 0, .int .u32 0, .int .u32 0] 38 (0, 0)) (by (with_reducible repeat (first | refine blk_drewN ?_ _ | refine blk_drew ?_ | refine blk_alloc ?_ _)); exact BK117.out) hb); have n4_ := Aside0.mk (below_step (by repeat (first | (with_reducible first | exact HB.out | apply below_alloc | apply pw_below_drewN | apply below_drew1 | refine below_set ?_ GE115.out | refine below_set ?_ GE116.out | refine below_set ?_ GE117.out) | exact HB.out)) hb); clear BK115; clear BK116; clear BK117; clear HB; have HO120 := n0_; have BK115 := n1_; have BK116 := n2_; have BK117 := n3_; have HB := n4_; clear n0_ n1_ n2_ n3_ n4_; (try clear hb); (try clear hb2); (try clear hk); (try clear hi); (try clear ho0); obtain ⟨Ao12, co12, eo12⟩ := Kd.R_slice HO120.out; subst eo12; have p121 : 0 ≤ (0 : Int) := (by omega); have q121 : 0 < (t118.length : Int) := of_decide_eq_true (by first | (with_reducible assumption) | assumption); obtain ⟨ad121, e121, hx121_0, hx121_1, hx121_2, hx121_3, hx121_4⟩ := at_T35 (Kd.R_reads' HO120.out).2.2 0 p121 q121; cases e121; have qi121 : (0 < t118.length) = True := eq_true (by omega); (try rw [show ((0 : Int)).toNat = 0 from rfl] at hx121_0); (try rw [show 0 * 5 = 0 from rfl] at hx121_0); (try rw [Addr.add_zero'] at hx121_0); (try rw [show ((0 : Int)).toNat = 0 from rfl] at hx121_1); (try rw [show 0 * 5 = 0 from rfl] at hx121_1); (try rw [Addr.add_zero'] at hx121_1); (try rw [show ((0 : Int)).toNat = 0 from rfl] at hx121_2); (try rw [show 0 * 5 = 0 from rfl] at hx121_2); (try rw [Addr.add_zero'] at hx121_2); (try rw [show ((0 : Int)).toNat = 0 from rfl] at hx121_3); (try rw [show 0 * 5 = 0 from rfl] at hx121_3); (try rw [Addr.add_zero'] at hx121_3); (try rw [show ((0 : Int)).toNat = 0 from rfl] at hx121_4); (try rw [show 0 * 5 = 0 from rfl] at hx121_4); (try rw [Addr.add_zero'] at hx121_4); replace p121 := eq_true p121; replace q121 := eq_true q121) | ((with_reducible refine gate_dst (N := 4) rfl ?_); refine box_event ?hg (N := 4) ?hd (cs := #[.string (⟨#[]⟩ : ByteArray), .int .i64 0, .int .i64 0, .int .i64 0, .string (⟨#[]⟩ : ByteArray)]) (t := 35) ?hr ?_; (case hd => rfl); (case hg => rfl); (case hr => first | (go_simp; done) | (go_simp; rfl)); intro gb122 hg w13 hbox hb; have n0_ := Aside0.mk (Kd.R_below (Kd.R_elderB (by (with_reducible repeat (first | apply Kd.R_alloc | apply Kd.R_drewN | apply Kd.R_drew)); exact HO120.out) gb122 (Nat.le_of_eq hg.symm)) hb); have n1_ := Aside0.mk (blk_below (g := gb115) (o := .cells #[.string a0_0, .slice A0_1 l0_1.length c0_1] 31 (0, 0)) (by (with_reducible repeat (first | refine blk_drewN ?_ _ | refine blk_drew ?_ | refine blk_alloc ?_ _)); exact BK115.out) hb); have n2_ := Aside0.mk (blk_below (g := gb116) (o := .cells #[.string (⟨#[]⟩ : ByteArray), .int .i64 0, .int .i64 0, .int .i64 0, .string (⟨#[]⟩ : ByteArray)] 35 (0, 0)) (by (with_reducible repeat (first | refine blk_drewN ?_ _ | refine blk_drew ?_ | refine blk_alloc ?_ _)); exact BK116.out) hb); have n3_ := Aside0.mk (blk_below (g := gb117) (o := .cells #[.string (⟨#[]⟩ : ByteArray), .string (⟨#[]⟩ : ByteArray), .int .u32 0, .int .u32 0, .int .u32 0, .int .u32 0, .int .u32 0] 38 (0, 0)) (by (with_reducible repeat (first | refine blk_drewN ?_ _ | refine blk_drew ?_ | refine blk_alloc ?_ _)); exact BK117.out) hb); have n4_ := Aside0.mk (below_step (by repeat (first | (with_reducible first | exact HB.out | apply below_alloc | apply pw_below_drewN | apply below_drew1 | refine below_set ?_ GE115.out | refine below_set ?_ GE116.out | refine below_set ?_ GE117.out) | exact HB.out)) hb); have n5_ := Aside0.mk (hbox); have n6_ := Aside0.mk ((by rw [hg]; exact (below_size (by repeat (first | (with_reducible first | exact HB.out | apply below_alloc | apply pw_below_drewN | apply below_drew1 | refine below_set ?_ GE115.out | refine below_set ?_ GE116.out | refine below_set ?_ GE117.out) | exact HB.out))) : w.heap.size ≤ gb122)); have n7_ := Aside0.mk ((by rw [hg]; exact (below_size (by repeat (first | (with_reducible first | exact HB.out | apply below_alloc | apply pw_below_drewN | apply below_drew1 | refine below_set ?_ GE115.out | refine below_set ?_ GE116.out | refine below_set ?_ GE117.out) | exact HB.out))) : w.heap.size ≤ gb122)); have n8_ := Aside0.mk ((by rw [hg]; exact Nat.ne_of_lt (blk_lt (g := gb115) (o := .cells #[.string a0_0, .slice A0_1 l0_1.length c0_1] 31 (0, 0)) (by (with_reducible repeat (first | refine blk_drewN ?_ _ | refine blk_drew ?_ | refine blk_alloc ?_ _)); exact BK115.out)) : gb115 ≠ gb122)); have n9_ := Aside0.mk ((by rw [hg]; exact Nat.ne_of_gt (blk_lt (g := gb115) (o := .cells #[.string a0_0, .slice A0_1 l0_1.length c0_1] 31 (0, 0)) (by (with_reducible repeat (first | refine blk_drewN ?_ _ | refine blk_drew ?_ | refine blk_alloc ?_ _)); exact BK115.out)) : gb122 ≠ gb115)); have n10_ := Aside0.mk ((by rw [hg]; exact Nat.ne_of_lt (blk_lt (g := gb116) (o := .cells #[.string (⟨#[]⟩ : ByteArray), .int .i64 0, .int .i64 0, .int .i64 0, .string (⟨#[]⟩ : ByteArray)] 35 (0, 0)) (by (with_reducible repeat (first | refine blk_drewN ?_ _ | refine blk_drew ?_ | refine blk_alloc ?_ _)); exact BK116.out)) : gb116 ≠ gb122)); have n11_ := Aside0.mk ((by rw [hg]; exact Nat.ne_of_gt (blk_lt (g := gb116) (o := .cells #[.string (⟨#[]⟩ : ByteArray), .int .i64 0, .int .i64 0, .int .i64 0, .string (⟨#[]⟩ : ByteArray)] 35 (0, 0)) (by (with_reducible repeat (first | refine blk_drewN ?_ _ | refine blk_drew ?_ | refine blk_alloc ?_ _)); exact BK116.out)) : gb122 ≠ gb116)); have n12_ := Aside0.mk ((by rw [hg]; exact Nat.ne_of_lt (blk_lt (g := gb117) (o := .cells #[.string (⟨#[]⟩ : ByteArray), .string (⟨#[]⟩ : ByteArray), .int .u32 0, .int .u32 0, .int .u32 0, .int .u32 0, .int .u32 0] 38 (0, 0)) (by (with_reducible repeat (first | refine blk_drewN ?_ _ | refine blk_drew ?_ | refine blk_alloc ?_ _)); exact BK117.out)) : gb117 ≠ gb122)); have n13_ := Aside0.mk ((by rw [hg]; exact Nat.ne_of_gt (blk_lt (g := gb117) (o := .cells #[.string (⟨#[]⟩ : ByteArray), .string (⟨#[]⟩ : ByteArray), .int .u32 0, .int .u32 0, .int .u32 0, .int .u32 0, .int .u32 0] 38 (0, 0)) (by (with_reducible repeat (first | refine blk_drewN ?_ _ | refine blk_drew ?_ | refine blk_alloc ?_ _)); exact BK117.out)) : gb122 ≠ gb117)); clear HO120; clear BK115; clear BK116; clear BK117; clear HB; have HO120 := n0_; have BK115 := n1_; have BK116 := n2_; have BK117 := n3_; have HB := n4_; have BK122 := n5_; have GW122 := n6_; have GE122 := n7_; have NB115_122 := n8_; have NB122_115 := n9_; have NB116_122 := n10_; have NB122_116 := n11_; have NB117_122 := n12_; have NB122_117 := n13_; clear n0_ n1_ n2_ n3_ n4_ n5_ n6_ n7_ n8_ n9_ n10_ n11_ n12_ n13_; clear hb hbox hg; have hnb14 := NB122_115.out; have hnc14 := NB115_122.out; have hnb15 := NB122_116.out; have hnc15 := NB116_122.out; have hnb16 := NB122_117.out; have hnc16 := NB117_122.out; have hcz17_0 : w13.cell? ⟨gb122, 0, none⟩ = some (.string (⟨#[]⟩ : ByteArray)) := (blk_cell BK122.out 0).trans rfl; have hcz17_1 : w13.cell? ⟨gb122, 1, none⟩ = some (.int .i64 0) := (blk_cell BK122.out 1).trans rfl; have hcz17_2 : w13.cell? ⟨gb122, 2, none⟩ = some (.int .i64 0) := (blk_cell BK122.out 2).trans rfl; have hcz17_3 : w13.cell? ⟨gb122, 3, none⟩ = some (.int .i64 0) := (blk_cell BK122.out 3).trans rfl; have hcz17_4 : w13.cell? ⟨gb122, 4, none⟩ = some (.string (⟨#[]⟩ : ByteArray)) := (blk_cell BK122.out 4).trans rfl; have hfz17_0 := blk_frozen BK122.out 0; have hfz17_1 := blk_frozen BK122.out 1; have hfz17_2 := blk_frozen BK122.out 2; have hfz17_3 := blk_frozen BK122.out 3; have hfz17_4 := blk_frozen BK122.out 4) | ((with_reducible refine gate_callee (f := 71) rfl ?_); refine goesL_ (some 15) rfl rfl Tryz.func71 (by kernel_rfl) rfl #[.string ((rd_T35 t118 0).f4)] rfl (by (try simp only [List.map_toArray, List.map_cons, List.map_nil]); first | done | rfl | (simp only [List.length_drop, List.length_take]; rfl)) ?_; (with_reducible refine (beadrollref10_Soa.calls k ((rd_T35 t118 0).f4) t123 t124 t125 t126 t127 t128 t129 t130 _ A4.out).mono ?_); rintro e w18 ⟨rfl, hb⟩; refine ⟨_, rfl, ?_⟩; have n0_ := Aside0.mk (Kd.R_below (by (with_reducible repeat (first | apply Kd.R_alloc | apply Kd.R_drewN | apply Kd.R_drew)); exact (Kd.R_mono (Kd.R_far (p := ⟨gb122, 4, none⟩) (Kd.R_far (p := ⟨gb122, 3, none⟩) (Kd.R_far (p := ⟨gb122, 2, none⟩) (Kd.R_far (p := ⟨gb122, 1, none⟩) (Kd.R_far (p := ⟨gb122, 0, none⟩) (Kd.R_mono HO120.out (fun k_ hk => (⟨hk, hk.2⟩ : _ ∧ k_ ≠ gb122))) (fun _ hk => hk.2) (.string ((rd_T35 t118 0).f0))) (fun _ hk => hk.2) (.int .i64 ((rd_T35 t118 0).f1))) (fun _ hk => hk.2) (.int .i64 ((rd_T35 t118 0).f2))) (fun _ hk => hk.2) (.int .i64 ((rd_T35 t118 0).f3))) (fun _ hk => hk.2) (.string ((rd_T35 t118 0).f4))) (fun _ h_ => h_.1))) hb); have n1_ := Aside0.mk (blk_below (g := gb115) (o := .cells #[.string a0_0, .slice A0_1 l0_1.length c0_1] 31 (0, 0)) (by (with_reducible repeat (first | refine blk_drewN ?_ _ | refine blk_drew ?_ | refine blk_alloc ?_ _)); refine blk_far ?_ NB115_122.out _; (with_reducible repeat (first | refine blk_drewN ?_ _ | refine blk_drew ?_ | refine blk_alloc ?_ _)); refine blk_far ?_ NB115_122.out _; (with_reducible repeat (first | refine blk_drewN ?_ _ | refine blk_drew ?_ | refine blk_alloc ?_ _)); refine blk_far ?_ NB115_122.out _; (with_reducible repeat (first | refine blk_drewN ?_ _ | refine blk_drew ?_ | refine blk_alloc ?_ _)); refine blk_far ?_ NB115_122.out _; (with_reducible repeat (first | refine blk_drewN ?_ _ | refine blk_drew ?_ | refine blk_alloc ?_ _)); refine blk_far ?_ NB115_122.out _; (with_reducible repeat (first | refine blk_drewN ?_ _ | refine blk_drew ?_ | refine blk_alloc ?_ _)); exact BK115.out) hb); have n2_ := Aside0.mk (blk_below (g := gb116) (o := .cells #[.string (⟨#[]⟩ : ByteArray), .int .i64 0, .int .i64 0, .int .i64 0, .string (⟨#[]⟩ : ByteArray)] 35 (0, 0)) (by (with_reducible repeat (first | refine blk_drewN ?_ _ | refine blk_drew ?_ | refine blk_alloc ?_ _)); refine blk_far ?_ NB116_122.out _; (with_reducible repeat (first | refine blk_drewN ?_ _ | refine blk_drew ?_ | refine blk_alloc ?_ _)); refine blk_far ?_ NB116_122.out _; (with_reducible repeat (first | refine blk_drewN ?_ _ | refine blk_drew ?_ | refine blk_alloc ?_ _)); refine blk_far ?_ NB116_122.out _; (with_reducible repeat (first | refine blk_drewN ?_ _ | refine blk_drew ?_ | refine blk_alloc ?_ _)); refine blk_far ?_ NB116_122.out _; (with_reducible repeat (first | refine blk_drewN ?_ _ | refine blk_drew ?_ | refine blk_alloc ?_ _)); refine blk_far ?_ NB116_122.out _; (with_reducible repeat (first | refine blk_drewN ?_ _ | refine blk_drew ?_ | refine blk_alloc ?_ _)); exact BK116.out) hb); have n3_ := Aside0.mk (blk_below (g := gb117) (o := .cells #[.string (⟨#[]⟩ : ByteArray), .string (⟨#[]⟩ : ByteArray), .int .u32 0, .int .u32 0, .int .u32 0, .int .u32 0, .int .u32 0] 38 (0, 0)) (by (with_reducible repeat (first | refine blk_drewN ?_ _ | refine blk_drew ?_ | refine blk_alloc ?_ _)); refine blk_far ?_ NB117_122.out _; (with_reducible repeat (first | refine blk_drewN ?_ _ | refine blk_drew ?_ | refine blk_alloc ?_ _)); refine blk_far ?_ NB117_122.out _; (with_reducible repeat (first | refine blk_drewN ?_ _ | refine blk_drew ?_ | refine blk_alloc ?_ _)); refine blk_far ?_ NB117_122.out _; (with_reducible repeat (first | refine blk_drewN ?_ _ | refine blk_drew ?_ | refine blk_alloc ?_ _)); refine blk_far ?_ NB117_122.out _; (with_reducible repeat (first | refine blk_drewN ?_ _ | refine blk_drew ?_ | refine blk_alloc ?_ _)); refine blk_far ?_ NB117_122.out _; (with_reducible repeat (first | refine blk_drewN ?_ _ | refine blk_drew ?_ | refine blk_alloc ?_ _)); exact BK117.out) hb); have n4_ := Aside0.mk (blk_below (g := gb122) (o := .cells #[.string ((rd_T35 t118 0).f0), .int .i64 ((rd_T35 t118 0).f1), .int .i64 ((rd_T35 t118 0).f2), .int .i64 ((rd_T35 t118 0).f3), .string ((rd_T35 t118 0).f4)] 35 (0, 0)) (by (with_reducible repeat (first | refine blk_drewN ?_ _ | refine blk_drew ?_ | refine blk_alloc ?_ _)); refine blk_put (cs := #[.string ((rd_T35 t118 0).f0), .int .i64 ((rd_T35 t118 0).f1), .int .i64 ((rd_T35 t118 0).f2), .int .i64 ((rd_T35 t118 0).f3), .string (⟨#[]⟩ : ByteArray)]) ?_ 4 _ rfl; (with_reducible repeat (first | refine blk_drewN ?_ _ | refine blk_drew ?_ | refine blk_alloc ?_ _)); refine blk_put (cs := #[.string ((rd_T35 t118 0).f0), .int .i64 ((rd_T35 t118 0).f1), .int .i64 ((rd_T35 t118 0).f2), .int .i64 0, .string (⟨#[]⟩ : ByteArray)]) ?_ 3 _ rfl; (with_reducible repeat (first | refine blk_drewN ?_ _ | refine blk_drew ?_ | refine blk_alloc ?_ _)); refine blk_put (cs := #[.string ((rd_T35 t118 0).f0), .int .i64 ((rd_T35 t118 0).f1), .int .i64 0, .int .i64 0, .string (⟨#[]⟩ : ByteArray)]) ?_ 2 _ rfl; (with_reducible repeat (first | refine blk_drewN ?_ _ | refine blk_drew ?_ | refine blk_alloc ?_ _)); refine blk_put (cs := #[.string ((rd_T35 t118 0).f0), .int .i64 0, .int .i64 0, .int .i64 0, .string (⟨#[]⟩ : ByteArray)]) ?_ 1 _ rfl; (with_reducible repeat (first | refine blk_drewN ?_ _ | refine blk_drew ?_ | refine blk_alloc ?_ _)); refine blk_put (cs := #[.string (⟨#[]⟩ : ByteArray), .int .i64 0, .int .i64 0, .int .i64 0, .string (⟨#[]⟩ : ByteArray)]) ?_ 0 _ rfl; (with_reducible repeat (first | refine blk_drewN ?_ _ | refine blk_drew ?_ | refine blk_alloc ?_ _)); exact BK122.out) hb); have n5_ := Aside0.mk (below_step (by repeat (first | (with_reducible first | exact HB.out | apply below_alloc | apply pw_below_drewN | apply below_drew1 | refine below_set ?_ GE115.out | refine below_set ?_ GE116.out | refine below_set ?_ GE117.out | refine below_set ?_ GE122.out) | exact HB.out)) hb); clear HO120; clear BK115; clear BK116; clear BK117; clear BK122; clear HB; have HO120 := n0_; have BK115 := n1_; have BK116 := n2_; have BK117 := n3_; have BK122 := n4_; have HB := n5_; clear n0_ n1_ n2_ n3_ n4_ n5_; (try clear hb); (try clear hb2); (try clear hk); (try clear hi)) | ((with_reducible refine gate_dst (N := 5) rfl ?_); refine box_event ?hg (N := 5) ?hd (cs := #[.string (⟨#[]⟩ : ByteArray), .string (⟨#[]⟩ : ByteArray), .int .u32 0, .int .u32 0, .int .u32 0, .int .u32 0, .int .u32 0]) (t := 38) ?hr ?_; (case hd => rfl); (case hg => rfl); (case hr => first | (go_simp; done) | (go_simp; rfl)); intro gb131 hg w19 hbox hb; have n0_ := Aside0.mk (Kd.R_below (by (with_reducible repeat (first | apply Kd.R_alloc | apply Kd.R_drewN | apply Kd.R_drew)); exact HO120.out) hb); have n1_ := Aside0.mk (blk_below (g := gb115) (o := .cells #[.string a0_0, .slice A0_1 l0_1.length c0_1] 31 (0, 0)) (by (with_reducible repeat (first | refine blk_drewN ?_ _ | refine blk_drew ?_ | refine blk_alloc ?_ _)); exact BK115.out) hb); have n2_ := Aside0.mk (blk_below (g := gb116) (o := .cells #[.string (⟨#[]⟩ : ByteArray), .int .i64 0, .int .i64 0, .int .i64 0, .string (⟨#[]⟩ : ByteArray)] 35 (0, 0)) (by (with_reducible repeat (first | refine blk_drewN ?_ _ | refine blk_drew ?_ | refine blk_alloc ?_ _)); exact BK116.out) hb); have n3_ := Aside0.mk (blk_below (g := gb117) (o := .cells #[.string (⟨#[]⟩ : ByteArray), .string (⟨#[]⟩ : ByteArray), .int .u32 0, .int .u32 0, .int .u32 0, .int .u32 0, .int .u32 0] 38 (0, 0)) (by (with_reducible repeat (first | refine blk_drewN ?_ _ | refine blk_drew ?_ | refine blk_alloc ?_ _)); exact BK117.out) hb); have n4_ := Aside0.mk (blk_below (g := gb122) (o := .cells #[.string ((rd_T35 t118 0).f0), .int .i64 ((rd_T35 t118 0).f1), .int .i64 ((rd_T35 t118 0).f2), .int .i64 ((rd_T35 t118 0).f3), .string ((rd_T35 t118 0).f4)] 35 (0, 0)) (by (with_reducible repeat (first | refine blk_drewN ?_ _ | refine blk_drew ?_ | refine blk_alloc ?_ _)); exact BK122.out) hb); have n5_ := Aside0.mk (below_step (by repeat (first | (with_reducible first | exact HB.out | apply below_alloc | apply pw_below_drewN | apply below_drew1 | refine below_set ?_ GE115.out | refine below_set ?_ GE116.out | refine below_set ?_ GE117.out | refine below_set ?_ GE122.out) | exact HB.out)) hb); have n6_ := Aside0.mk (hbox); have n7_ := Aside0.mk ((by rw [hg]; exact (below_size (by repeat (first | (with_reducible first | exact HB.out | apply below_alloc | apply pw_below_drewN | apply below_drew1 | refine below_set ?_ GE115.out | refine below_set ?_ GE116.out | refine below_set ?_ GE117.out | refine below_set ?_ GE122.out) | exact HB.out))) : w.heap.size ≤ gb131)); have n8_ := Aside0.mk ((by rw [hg]; exact (below_size (by repeat (first | (with_reducible first | exact HB.out | apply below_alloc | apply pw_below_drewN | apply below_drew1 | refine below_set ?_ GE115.out | refine below_set ?_ GE116.out | refine below_set ?_ GE117.out | refine below_set ?_ GE122.out) | exact HB.out))) : w.heap.size ≤ gb131)); have n9_ := Aside0.mk ((by rw [hg]; exact Nat.ne_of_lt (blk_lt (g := gb115) (o := .cells #[.string a0_0, .slice A0_1 l0_1.length c0_1] 31 (0, 0)) (by (with_reducible repeat (first | refine blk_drewN ?_ _ | refine blk_drew ?_ | refine blk_alloc ?_ _)); exact BK115.out)) : gb115 ≠ gb131)); have n10_ := Aside0.mk ((by rw [hg]; exact Nat.ne_of_gt (blk_lt (g := gb115) (o := .cells #[.string a0_0, .slice A0_1 l0_1.length c0_1] 31 (0, 0)) (by (with_reducible repeat (first | refine blk_drewN ?_ _ | refine blk_drew ?_ | refine blk_alloc ?_ _)); exact BK115.out)) : gb131 ≠ gb115)); have n11_ := Aside0.mk ((by rw [hg]; exact Nat.ne_of_lt (blk_lt (g := gb116) (o := .cells #[.string (⟨#[]⟩ : ByteArray), .int .i64 0, .int .i64 0, .int .i64 0, .string (⟨#[]⟩ : ByteArray)] 35 (0, 0)) (by (with_reducible repeat (first | refine blk_drewN ?_ _ | refine blk_drew ?_ | refine blk_alloc ?_ _)); exact BK116.out)) : gb116 ≠ gb131)); have n12_ := Aside0.mk ((by rw [hg]; exact Nat.ne_of_gt (blk_lt (g := gb116) (o := .cells #[.string (⟨#[]⟩ : ByteArray), .int .i64 0, .int .i64 0, .int .i64 0, .string (⟨#[]⟩ : ByteArray)] 35 (0, 0)) (by (with_reducible repeat (first | refine blk_drewN ?_ _ | refine blk_drew ?_ | refine blk_alloc ?_ _)); exact BK116.out)) : gb131 ≠ gb116)); have n13_ := Aside0.mk ((by rw [hg]; exact Nat.ne_of_lt (blk_lt (g := gb117) (o := .cells #[.string (⟨#[]⟩ : ByteArray), .string (⟨#[]⟩ : ByteArray), .int .u32 0, .int .u32 0, .int .u32 0, .int .u32 0, .int .u32 0] 38 (0, 0)) (by (with_reducible repeat (first | refine blk_drewN ?_ _ | refine blk_drew ?_ | refine blk_alloc ?_ _)); exact BK117.out)) : gb117 ≠ gb131)); have n14_ := Aside0.mk ((by rw [hg]; exact Nat.ne_of_gt (blk_lt (g := gb117) (o := .cells #[.string (⟨#[]⟩ : ByteArray), .string (⟨#[]⟩ : ByteArray), .int .u32 0, .int .u32 0, .int .u32 0, .int .u32 0, .int .u32 0] 38 (0, 0)) (by (with_reducible repeat (first | refine blk_drewN ?_ _ | refine blk_drew ?_ | refine blk_alloc ?_ _)); exact BK117.out)) : gb131 ≠ gb117)); have n15_ := Aside0.mk ((by rw [hg]; exact Nat.ne_of_lt (blk_lt (g := gb122) (o := .cells #[.string ((rd_T35 t118 0).f0), .int .i64 ((rd_T35 t118 0).f1), .int .i64 ((rd_T35 t118 0).f2), .int .i64 ((rd_T35 t118 0).f3), .string ((rd_T35 t118 0).f4)] 35 (0, 0)) (by (with_reducible repeat (first | refine blk_drewN ?_ _ | refine blk_drew ?_ | refine blk_alloc ?_ _)); exact BK122.out)) : gb122 ≠ gb131)); have n16_ := Aside0.mk ((by rw [hg]; exact Nat.ne_of_gt (blk_lt (g := gb122) (o := .cells #[.string ((rd_T35 t118 0).f0), .int .i64 ((rd_T35 t118 0).f1), .int .i64 ((rd_T35 t118 0).f2), .int .i64 ((rd_T35 t118 0).f3), .string ((rd_T35 t118 0).f4)] 35 (0, 0)) (by (with_reducible repeat (first | refine blk_drewN ?_ _ | refine blk_drew ?_ | refine blk_alloc ?_ _)); exact BK122.out)) : gb131 ≠ gb122)); clear HO120; clear BK115; clear BK116; clear BK117; clear BK122; clear HB; have HO120 := n0_; have BK115 := n1_; have BK116 := n2_; have BK117 := n3_; have BK122 := n4_; have HB := n5_; have BK131 := n6_; have GW131 := n7_; have GE131 := n8_; have NB115_131 := n9_; have NB131_115 := n10_; have NB116_131 := n11_; have NB131_116 := n12_; have NB117_131 := n13_; have NB131_117 := n14_; have NB122_131 := n15_; have NB131_122 := n16_; clear n0_ n1_ n2_ n3_ n4_ n5_ n6_ n7_ n8_ n9_ n10_ n11_ n12_ n13_ n14_ n15_ n16_; clear hb hbox hg; have hnb20 := NB131_115.out; have hnc20 := NB115_131.out; have hnb21 := NB131_116.out; have hnc21 := NB116_131.out; have hnb22 := NB131_117.out; have hnc22 := NB117_131.out; have hnb23 := NB131_122.out; have hnc23 := NB122_131.out; have hcz24_0 : w19.cell? ⟨gb131, 0, none⟩ = some (.string (⟨#[]⟩ : ByteArray)) := (blk_cell BK131.out 0).trans rfl; have hcz24_1 : w19.cell? ⟨gb131, 1, none⟩ = some (.string (⟨#[]⟩ : ByteArray)) := (blk_cell BK131.out 1).trans rfl; have hcz24_2 : w19.cell? ⟨gb131, 2, none⟩ = some (.int .u32 0) := (blk_cell BK131.out 2).trans rfl; have hcz24_3 : w19.cell? ⟨gb131, 3, none⟩ = some (.int .u32 0) := (blk_cell BK131.out 3).trans rfl; have hcz24_4 : w19.cell? ⟨gb131, 4, none⟩ = some (.int .u32 0) := (blk_cell BK131.out 4).trans rfl; have hcz24_5 : w19.cell? ⟨gb131, 5, none⟩ = some (.int .u32 0) := (blk_cell BK131.out 5).trans rfl; have hcz24_6 : w19.cell? ⟨gb131, 6, none⟩ = some (.int .u32 0) := (blk_cell BK131.out 6).trans rfl; have hfz24_0 := blk_frozen BK131.out 0; have hfz24_1 := blk_frozen BK131.out 1; have hfz24_2 := blk_frozen BK131.out 2; have hfz24_3 := blk_frozen BK131.out 3; have hfz24_4 := blk_frozen BK131.out 4; have hfz24_5 := blk_frozen BK131.out 5; have hfz24_6 := blk_frozen BK131.out 6))
  have n0_ : Aside0 (Kd.R k35 35 (((((((w19.setCell ⟨gb131, 0, none⟩ (.string t123)).setCell ⟨gb131, 1, none⟩ (.string t124)).setCell ⟨gb131, 2, none⟩ (.int .u32 t125)).setCell ⟨gb131, 3, none⟩ (.int .u32 t126)).setCell ⟨gb131, 4, none⟩ (.int .u32 t127)).setCell ⟨gb131, 5, none⟩ (.int .u32 t128)).setCell ⟨gb131, 6, none⟩ (.int .u32 t129)) w.heap.size (fun k_ => k_ ≠ gb116 ∧ k_ ≠ gb122) (.slice (some ad121) t118.length co12) t118) := ⟨by (with_reducible repeat (first | apply Kd.R_alloc | apply Kd.R_drewN | apply Kd.R_drew)); exact Kd.R_mono (Kd.R_far (p := ⟨gb131, 6, none⟩) (Kd.R_far (p := ⟨gb131, 5, none⟩) (Kd.R_far (p := ⟨gb131, 4, none⟩) (Kd.R_far (p := ⟨gb131, 3, none⟩) (Kd.R_far (p := ⟨gb131, 2, none⟩) (Kd.R_far (p := ⟨gb131, 1, none⟩) (Kd.R_far (p := ⟨gb131, 0, none⟩) (Kd.R_types HO120.out BK131.out (by decide)) (fun _ hk => hk.2) (.string t123)) (fun _ hk => hk.2) (.string t124)) (fun _ hk => hk.2) (.int .u32 t125)) (fun _ hk => hk.2) (.int .u32 t126)) (fun _ hk => hk.2) (.int .u32 t127)) (fun _ hk => hk.2) (.int .u32 t128)) (fun _ hk => hk.2) (.int .u32 t129)) (fun _ hk => ⟨hk.1.1.2, hk.1.2⟩)⟩
  have n1_ : Aside0 ((((((((w19.setCell ⟨gb131, 0, none⟩ (.string t123)).setCell ⟨gb131, 1, none⟩ (.string t124)).setCell ⟨gb131, 2, none⟩ (.int .u32 t125)).setCell ⟨gb131, 3, none⟩ (.int .u32 t126)).setCell ⟨gb131, 4, none⟩ (.int .u32 t127)).setCell ⟨gb131, 5, none⟩ (.int .u32 t128)).setCell ⟨gb131, 6, none⟩ (.int .u32 t129)).heap[gb115]? = some (.cells #[.string a0_0, .slice A0_1 l0_1.length c0_1] 31 (0, 0))) := ⟨by (with_reducible repeat (first | refine blk_drewN ?_ _ | refine blk_drew ?_ | refine blk_alloc ?_ _)); refine blk_far ?_ NB115_131.out _; (with_reducible repeat (first | refine blk_drewN ?_ _ | refine blk_drew ?_ | refine blk_alloc ?_ _)); refine blk_far ?_ NB115_131.out _; (with_reducible repeat (first | refine blk_drewN ?_ _ | refine blk_drew ?_ | refine blk_alloc ?_ _)); refine blk_far ?_ NB115_131.out _; (with_reducible repeat (first | refine blk_drewN ?_ _ | refine blk_drew ?_ | refine blk_alloc ?_ _)); refine blk_far ?_ NB115_131.out _; (with_reducible repeat (first | refine blk_drewN ?_ _ | refine blk_drew ?_ | refine blk_alloc ?_ _)); refine blk_far ?_ NB115_131.out _; (with_reducible repeat (first | refine blk_drewN ?_ _ | refine blk_drew ?_ | refine blk_alloc ?_ _)); refine blk_far ?_ NB115_131.out _; (with_reducible repeat (first | refine blk_drewN ?_ _ | refine blk_drew ?_ | refine blk_alloc ?_ _)); refine blk_far ?_ NB115_131.out _; (with_reducible repeat (first | refine blk_drewN ?_ _ | refine blk_drew ?_ | refine blk_alloc ?_ _)); exact BK115.out⟩
  have n2_ : Aside0 ((((((((w19.setCell ⟨gb131, 0, none⟩ (.string t123)).setCell ⟨gb131, 1, none⟩ (.string t124)).setCell ⟨gb131, 2, none⟩ (.int .u32 t125)).setCell ⟨gb131, 3, none⟩ (.int .u32 t126)).setCell ⟨gb131, 4, none⟩ (.int .u32 t127)).setCell ⟨gb131, 5, none⟩ (.int .u32 t128)).setCell ⟨gb131, 6, none⟩ (.int .u32 t129)).heap[gb116]? = some (.cells #[.string (⟨#[]⟩ : ByteArray), .int .i64 0, .int .i64 0, .int .i64 0, .string (⟨#[]⟩ : ByteArray)] 35 (0, 0))) := ⟨by (with_reducible repeat (first | refine blk_drewN ?_ _ | refine blk_drew ?_ | refine blk_alloc ?_ _)); refine blk_far ?_ NB116_131.out _; (with_reducible repeat (first | refine blk_drewN ?_ _ | refine blk_drew ?_ | refine blk_alloc ?_ _)); refine blk_far ?_ NB116_131.out _; (with_reducible repeat (first | refine blk_drewN ?_ _ | refine blk_drew ?_ | refine blk_alloc ?_ _)); refine blk_far ?_ NB116_131.out _; (with_reducible repeat (first | refine blk_drewN ?_ _ | refine blk_drew ?_ | refine blk_alloc ?_ _)); refine blk_far ?_ NB116_131.out _; (with_reducible repeat (first | refine blk_drewN ?_ _ | refine blk_drew ?_ | refine blk_alloc ?_ _)); refine blk_far ?_ NB116_131.out _; (with_reducible repeat (first | refine blk_drewN ?_ _ | refine blk_drew ?_ | refine blk_alloc ?_ _)); refine blk_far ?_ NB116_131.out _; (with_reducible repeat (first | refine blk_drewN ?_ _ | refine blk_drew ?_ | refine blk_alloc ?_ _)); refine blk_far ?_ NB116_131.out _; (with_reducible repeat (first | refine blk_drewN ?_ _ | refine blk_drew ?_ | refine blk_alloc ?_ _)); exact BK116.out⟩
  have n3_ : Aside0 ((((((((w19.setCell ⟨gb131, 0, none⟩ (.string t123)).setCell ⟨gb131, 1, none⟩ (.string t124)).setCell ⟨gb131, 2, none⟩ (.int .u32 t125)).setCell ⟨gb131, 3, none⟩ (.int .u32 t126)).setCell ⟨gb131, 4, none⟩ (.int .u32 t127)).setCell ⟨gb131, 5, none⟩ (.int .u32 t128)).setCell ⟨gb131, 6, none⟩ (.int .u32 t129)).heap[gb117]? = some (.cells #[.string (⟨#[]⟩ : ByteArray), .string (⟨#[]⟩ : ByteArray), .int .u32 0, .int .u32 0, .int .u32 0, .int .u32 0, .int .u32 0] 38 (0, 0))) := ⟨by (with_reducible repeat (first | refine blk_drewN ?_ _ | refine blk_drew ?_ | refine blk_alloc ?_ _)); refine blk_far ?_ NB117_131.out _; (with_reducible repeat (first | refine blk_drewN ?_ _ | refine blk_drew ?_ | refine blk_alloc ?_ _)); refine blk_far ?_ NB117_131.out _; (with_reducible repeat (first | refine blk_drewN ?_ _ | refine blk_drew ?_ | refine blk_alloc ?_ _)); refine blk_far ?_ NB117_131.out _; (with_reducible repeat (first | refine blk_drewN ?_ _ | refine blk_drew ?_ | refine blk_alloc ?_ _)); refine blk_far ?_ NB117_131.out _; (with_reducible repeat (first | refine blk_drewN ?_ _ | refine blk_drew ?_ | refine blk_alloc ?_ _)); refine blk_far ?_ NB117_131.out _; (with_reducible repeat (first | refine blk_drewN ?_ _ | refine blk_drew ?_ | refine blk_alloc ?_ _)); refine blk_far ?_ NB117_131.out _; (with_reducible repeat (first | refine blk_drewN ?_ _ | refine blk_drew ?_ | refine blk_alloc ?_ _)); refine blk_far ?_ NB117_131.out _; (with_reducible repeat (first | refine blk_drewN ?_ _ | refine blk_drew ?_ | refine blk_alloc ?_ _)); exact BK117.out⟩
  have n4_ : Aside0 ((((((((w19.setCell ⟨gb131, 0, none⟩ (.string t123)).setCell ⟨gb131, 1, none⟩ (.string t124)).setCell ⟨gb131, 2, none⟩ (.int .u32 t125)).setCell ⟨gb131, 3, none⟩ (.int .u32 t126)).setCell ⟨gb131, 4, none⟩ (.int .u32 t127)).setCell ⟨gb131, 5, none⟩ (.int .u32 t128)).setCell ⟨gb131, 6, none⟩ (.int .u32 t129)).heap[gb122]? = some (.cells #[.string ((rd_T35 t118 0).f0), .int .i64 ((rd_T35 t118 0).f1), .int .i64 ((rd_T35 t118 0).f2), .int .i64 ((rd_T35 t118 0).f3), .string ((rd_T35 t118 0).f4)] 35 (0, 0))) := ⟨by (with_reducible repeat (first | refine blk_drewN ?_ _ | refine blk_drew ?_ | refine blk_alloc ?_ _)); refine blk_far ?_ NB122_131.out _; (with_reducible repeat (first | refine blk_drewN ?_ _ | refine blk_drew ?_ | refine blk_alloc ?_ _)); refine blk_far ?_ NB122_131.out _; (with_reducible repeat (first | refine blk_drewN ?_ _ | refine blk_drew ?_ | refine blk_alloc ?_ _)); refine blk_far ?_ NB122_131.out _; (with_reducible repeat (first | refine blk_drewN ?_ _ | refine blk_drew ?_ | refine blk_alloc ?_ _)); refine blk_far ?_ NB122_131.out _; (with_reducible repeat (first | refine blk_drewN ?_ _ | refine blk_drew ?_ | refine blk_alloc ?_ _)); refine blk_far ?_ NB122_131.out _; (with_reducible repeat (first | refine blk_drewN ?_ _ | refine blk_drew ?_ | refine blk_alloc ?_ _)); refine blk_far ?_ NB122_131.out _; (with_reducible repeat (first | refine blk_drewN ?_ _ | refine blk_drew ?_ | refine blk_alloc ?_ _)); refine blk_far ?_ NB122_131.out _; (with_reducible repeat (first | refine blk_drewN ?_ _ | refine blk_drew ?_ | refine blk_alloc ?_ _)); exact BK122.out⟩
  have n5_ : Aside0 ((((((((w19.setCell ⟨gb131, 0, none⟩ (.string t123)).setCell ⟨gb131, 1, none⟩ (.string t124)).setCell ⟨gb131, 2, none⟩ (.int .u32 t125)).setCell ⟨gb131, 3, none⟩ (.int .u32 t126)).setCell ⟨gb131, 4, none⟩ (.int .u32 t127)).setCell ⟨gb131, 5, none⟩ (.int .u32 t128)).setCell ⟨gb131, 6, none⟩ (.int .u32 t129)).heap[gb131]? = some (.cells #[.string t123, .string t124, .int .u32 t125, .int .u32 t126, .int .u32 t127, .int .u32 t128, .int .u32 t129] 38 (0, 0))) := ⟨by (with_reducible repeat (first | refine blk_drewN ?_ _ | refine blk_drew ?_ | refine blk_alloc ?_ _)); refine blk_put (cs := #[.string t123, .string t124, .int .u32 t125, .int .u32 t126, .int .u32 t127, .int .u32 t128, .int .u32 0]) ?_ 6 _ rfl; (with_reducible repeat (first | refine blk_drewN ?_ _ | refine blk_drew ?_ | refine blk_alloc ?_ _)); refine blk_put (cs := #[.string t123, .string t124, .int .u32 t125, .int .u32 t126, .int .u32 t127, .int .u32 0, .int .u32 0]) ?_ 5 _ rfl; (with_reducible repeat (first | refine blk_drewN ?_ _ | refine blk_drew ?_ | refine blk_alloc ?_ _)); refine blk_put (cs := #[.string t123, .string t124, .int .u32 t125, .int .u32 t126, .int .u32 0, .int .u32 0, .int .u32 0]) ?_ 4 _ rfl; (with_reducible repeat (first | refine blk_drewN ?_ _ | refine blk_drew ?_ | refine blk_alloc ?_ _)); refine blk_put (cs := #[.string t123, .string t124, .int .u32 t125, .int .u32 0, .int .u32 0, .int .u32 0, .int .u32 0]) ?_ 3 _ rfl; (with_reducible repeat (first | refine blk_drewN ?_ _ | refine blk_drew ?_ | refine blk_alloc ?_ _)); refine blk_put (cs := #[.string t123, .string t124, .int .u32 0, .int .u32 0, .int .u32 0, .int .u32 0, .int .u32 0]) ?_ 2 _ rfl; (with_reducible repeat (first | refine blk_drewN ?_ _ | refine blk_drew ?_ | refine blk_alloc ?_ _)); refine blk_put (cs := #[.string t123, .string (⟨#[]⟩ : ByteArray), .int .u32 0, .int .u32 0, .int .u32 0, .int .u32 0, .int .u32 0]) ?_ 1 _ rfl; (with_reducible repeat (first | refine blk_drewN ?_ _ | refine blk_drew ?_ | refine blk_alloc ?_ _)); refine blk_put (cs := #[.string (⟨#[]⟩ : ByteArray), .string (⟨#[]⟩ : ByteArray), .int .u32 0, .int .u32 0, .int .u32 0, .int .u32 0, .int .u32 0]) ?_ 0 _ rfl; (with_reducible repeat (first | refine blk_drewN ?_ _ | refine blk_drew ?_ | refine blk_alloc ?_ _)); exact BK131.out⟩
  have n6_ : Aside0 (Below w.heap.size w (((((((w19.setCell ⟨gb131, 0, none⟩ (.string t123)).setCell ⟨gb131, 1, none⟩ (.string t124)).setCell ⟨gb131, 2, none⟩ (.int .u32 t125)).setCell ⟨gb131, 3, none⟩ (.int .u32 t126)).setCell ⟨gb131, 4, none⟩ (.int .u32 t127)).setCell ⟨gb131, 5, none⟩ (.int .u32 t128)).setCell ⟨gb131, 6, none⟩ (.int .u32 t129))) := ⟨by repeat (first | (with_reducible first | exact HB.out | apply below_alloc | apply pw_below_drewN | apply below_drew1 | refine below_set ?_ GE115.out | refine below_set ?_ GE116.out | refine below_set ?_ GE117.out | refine below_set ?_ GE122.out | refine below_set ?_ GE131.out) | exact HB.out)⟩
  (try clear HO120)
  (try clear BK115)
  (try clear BK116)
  (try clear BK117)
  (try clear BK122)
  (try clear BK131)
  (try clear HB)
  generalize (((((((w19.setCell ⟨gb131, 0, none⟩ (.string t123)).setCell ⟨gb131, 1, none⟩ (.string t124)).setCell ⟨gb131, 2, none⟩ (.int .u32 t125)).setCell ⟨gb131, 3, none⟩ (.int .u32 t126)).setCell ⟨gb131, 4, none⟩ (.int .u32 t127)).setCell ⟨gb131, 5, none⟩ (.int .u32 t128)).setCell ⟨gb131, 6, none⟩ (.int .u32 t129)) = w25 at n0_ n1_ n2_ n3_ n4_ n5_ n6_ ⊢
  have HO120 := n0_
  have BK115 := n1_
  have BK116 := n2_
  have BK117 := n3_
  have BK122 := n4_
  have BK131 := n5_
  have HB := n6_
  clear n0_ n1_ n2_ n3_ n4_ n5_ n6_
  have n0_ := Aside0.mk (Kd.R_drew HO120.out)
  have n1_ := Aside0.mk (blk_drew BK115.out)
  have n2_ := Aside0.mk (blk_drew BK116.out)
  have n3_ := Aside0.mk (blk_drew BK117.out)
  have n4_ := Aside0.mk (blk_drew BK122.out)
  have n5_ := Aside0.mk (blk_drew BK131.out)
  have n6_ := Aside0.mk (below_drew1 HB.out)
  clear HO120
  clear BK115
  clear BK116
  clear BK117
  clear BK122
  clear BK131
  clear HB
  have HO120 := n0_
  have BK115 := n1_
  have BK116 := n2_
  have BK117 := n3_
  have BK122 := n4_
  have BK131 := n5_
  have HB := n6_
  clear n0_ n1_ n2_ n3_ n4_ n5_ n6_
  refine start_ (n := 4) (S := fun w' => w'.cell? ⟨gb122, 0, none⟩ = some (.string ((rd_T35 t118 0).f0)) ∧ w'.cell? ⟨gb122, 1, none⟩ = some (.int .i64 ((rd_T35 t118 0).f1)) ∧ w'.cell? ⟨gb122, 2, none⟩ = some (.int .i64 ((rd_T35 t118 0).f2)) ∧ w'.cell? ⟨gb122, 3, none⟩ = some (.int .i64 ((rd_T35 t118 0).f3)) ∧ w'.cell? ⟨gb122, 4, none⟩ = some (.string ((rd_T35 t118 0).f4)) ∧ w'.cell? ⟨gb131, 0, none⟩ = some (.string t123) ∧ w'.cell? ⟨gb131, 1, none⟩ = some (.string t124) ∧ w'.cell? ⟨gb131, 2, none⟩ = some (.int .u32 t125) ∧ w'.cell? ⟨gb131, 3, none⟩ = some (.int .u32 t126) ∧ w'.cell? ⟨gb131, 4, none⟩ = some (.int .u32 t127) ∧ w'.cell? ⟨gb131, 5, none⟩ = some (.int .u32 t128) ∧ w'.cell? ⟨gb131, 6, none⟩ = some (.int .u32 t129)) (ds := []) #[false, false, false, false] (by kernel_rfl) rfl rfl ⟨(blk_cell BK122.out 0).trans rfl, (blk_cell BK122.out 1).trans rfl, (blk_cell BK122.out 2).trans rfl, (blk_cell BK122.out 3).trans rfl, (blk_cell BK122.out 4).trans rfl, (blk_cell BK131.out 0).trans rfl, (blk_cell BK131.out 1).trans rfl, (blk_cell BK131.out 2).trans rfl, (blk_cell BK131.out 3).trans rfl, (blk_cell BK131.out 4).trans rfl, (blk_cell BK131.out 5).trans rfl, (blk_cell BK131.out 6).trans rfl⟩ (fun hHeld => ?_)
  generalize w25.drew = w26 at HO120 BK115 BK116 BK117 BK122 BK131 HB hHeld ⊢
  refine take_ (i := 0) (N := some 18) (v := ?_) (a' := ?_) #[true, false, false, false] rfl rfl (by kernel_rfl) (fun _ _ _ h => h) (Or.inl ⟨by rfl, ?_⟩) hHeld ?_ ?_
  rotate_left
  ·rintro w' ⟨s0, s1, s2, s3, s4, s5, s6, s7, s8, s9, s10, s11⟩
   go_simp
   with_reducible rfl
  rotate_left
  ·simp only [Act.put, List.setIfInBounds_toArray, List.set_cons_zero, List.set_cons_succ, i64_w, i32_w]
   rfl
  refine take_ (i := 1) (N := some 19) (v := ?_) (a' := ?_) #[true, true, false, false] rfl rfl (by kernel_rfl) (fun _ _ _ h => h) (Or.inl ⟨by rfl, ?_⟩) hHeld ?_ ?_
  rotate_left
  ·rintro w' ⟨s0, s1, s2, s3, s4, s5, s6, s7, s8, s9, s10, s11⟩
   go_simp
   with_reducible rfl
  rotate_left
  ·simp only [Act.put, List.setIfInBounds_toArray, List.set_cons_zero, List.set_cons_succ, i64_w, i32_w]
   rfl
  refine one_ (i := 2) (N := none) #[true, true, true, false] rfl rfl (by kernel_rfl) (by decide) (fun K hK => ?_)
  have hs27 : w26.cell? ⟨gb116, 0, none⟩ = some (.string (⟨#[]⟩ : ByteArray)) := (blk_cell BK116.out 0).trans rfl
  have hfs27 := blk_frozen BK116.out 0
  have hns27_0 := NB115_116.out
  have hns27_2 := NB117_116.out
  have hns27_3 := NB122_116.out
  have hns27_4 := NB131_116.out
  have hms27_0 := NB116_115.out
  have hms27_2 := NB116_117.out
  have hms27_3 := NB116_122.out
  have hms27_4 := NB116_131.out
  have hs28 : w26.cell? ⟨gb116, 1, none⟩ = some (.int .i64 0) := (blk_cell BK116.out 1).trans rfl
  have hfs28 := blk_frozen BK116.out 1
  have hns28_0 := NB115_116.out
  have hns28_2 := NB117_116.out
  have hns28_3 := NB122_116.out
  have hns28_4 := NB131_116.out
  have hms28_0 := NB116_115.out
  have hms28_2 := NB116_117.out
  have hms28_3 := NB116_122.out
  have hms28_4 := NB116_131.out
  have hs29 : w26.cell? ⟨gb116, 2, none⟩ = some (.int .i64 0) := (blk_cell BK116.out 2).trans rfl
  have hfs29 := blk_frozen BK116.out 2
  have hns29_0 := NB115_116.out
  have hns29_2 := NB117_116.out
  have hns29_3 := NB122_116.out
  have hns29_4 := NB131_116.out
  have hms29_0 := NB116_115.out
  have hms29_2 := NB116_117.out
  have hms29_3 := NB116_122.out
  have hms29_4 := NB116_131.out
  have hs30 : w26.cell? ⟨gb116, 3, none⟩ = some (.int .i64 0) := (blk_cell BK116.out 3).trans rfl
  have hfs30 := blk_frozen BK116.out 3
  have hns30_0 := NB115_116.out
  have hns30_2 := NB117_116.out
  have hns30_3 := NB122_116.out
  have hns30_4 := NB131_116.out
  have hms30_0 := NB116_115.out
  have hms30_2 := NB116_117.out
  have hms30_3 := NB116_122.out
  have hms30_4 := NB116_131.out
  have hs31 : w26.cell? ⟨gb116, 4, none⟩ = some (.string (⟨#[]⟩ : ByteArray)) := (blk_cell BK116.out 4).trans rfl
  have hfs31 := blk_frozen BK116.out 4
  have hns31_0 := NB115_116.out
  have hns31_2 := NB117_116.out
  have hns31_3 := NB122_116.out
  have hns31_4 := NB131_116.out
  have hms31_0 := NB116_115.out
  have hms31_2 := NB116_117.out
  have hms31_3 := NB116_122.out
  have hms31_4 := NB116_131.out
  refine skip_ (w1 := ?_) (by rfl) rfl ?_ ?_
  rotate_left
  ·go_simp
   rfl
  refine hK.out _ _ ⟨((cell_far (p := ⟨gb116, _, none⟩) NB122_116.out _).trans (((cell_far (p := ⟨gb116, _, none⟩) NB122_116.out _).trans (((cell_far (p := ⟨gb116, _, none⟩) NB122_116.out _).trans (((cell_far (p := ⟨gb116, _, none⟩) NB122_116.out _).trans (((cell_far (p := ⟨gb116, _, none⟩) NB122_116.out _).trans (hHeld.1)))))))))), ((cell_far (p := ⟨gb116, _, none⟩) NB122_116.out _).trans (((cell_far (p := ⟨gb116, _, none⟩) NB122_116.out _).trans (((cell_far (p := ⟨gb116, _, none⟩) NB122_116.out _).trans (((cell_far (p := ⟨gb116, _, none⟩) NB122_116.out _).trans (((cell_far (p := ⟨gb116, _, none⟩) NB122_116.out _).trans (hHeld.2.1)))))))))), ((cell_far (p := ⟨gb116, _, none⟩) NB122_116.out _).trans (((cell_far (p := ⟨gb116, _, none⟩) NB122_116.out _).trans (((cell_far (p := ⟨gb116, _, none⟩) NB122_116.out _).trans (((cell_far (p := ⟨gb116, _, none⟩) NB122_116.out _).trans (((cell_far (p := ⟨gb116, _, none⟩) NB122_116.out _).trans (hHeld.2.2.1)))))))))), ((cell_far (p := ⟨gb116, _, none⟩) NB122_116.out _).trans (((cell_far (p := ⟨gb116, _, none⟩) NB122_116.out _).trans (((cell_far (p := ⟨gb116, _, none⟩) NB122_116.out _).trans (((cell_far (p := ⟨gb116, _, none⟩) NB122_116.out _).trans (((cell_far (p := ⟨gb116, _, none⟩) NB122_116.out _).trans (hHeld.2.2.2.1)))))))))), ((cell_far (p := ⟨gb116, _, none⟩) NB122_116.out _).trans (((cell_far (p := ⟨gb116, _, none⟩) NB122_116.out _).trans (((cell_far (p := ⟨gb116, _, none⟩) NB122_116.out _).trans (((cell_far (p := ⟨gb116, _, none⟩) NB122_116.out _).trans (((cell_far (p := ⟨gb116, _, none⟩) NB122_116.out _).trans (hHeld.2.2.2.2.1)))))))))), ((cell_far (p := ⟨gb116, _, none⟩) NB131_116.out _).trans (((cell_far (p := ⟨gb116, _, none⟩) NB131_116.out _).trans (((cell_far (p := ⟨gb116, _, none⟩) NB131_116.out _).trans (((cell_far (p := ⟨gb116, _, none⟩) NB131_116.out _).trans (((cell_far (p := ⟨gb116, _, none⟩) NB131_116.out _).trans (hHeld.2.2.2.2.2.1)))))))))), ((cell_far (p := ⟨gb116, _, none⟩) NB131_116.out _).trans (((cell_far (p := ⟨gb116, _, none⟩) NB131_116.out _).trans (((cell_far (p := ⟨gb116, _, none⟩) NB131_116.out _).trans (((cell_far (p := ⟨gb116, _, none⟩) NB131_116.out _).trans (((cell_far (p := ⟨gb116, _, none⟩) NB131_116.out _).trans (hHeld.2.2.2.2.2.2.1)))))))))), ((cell_far (p := ⟨gb116, _, none⟩) NB131_116.out _).trans (((cell_far (p := ⟨gb116, _, none⟩) NB131_116.out _).trans (((cell_far (p := ⟨gb116, _, none⟩) NB131_116.out _).trans (((cell_far (p := ⟨gb116, _, none⟩) NB131_116.out _).trans (((cell_far (p := ⟨gb116, _, none⟩) NB131_116.out _).trans (hHeld.2.2.2.2.2.2.2.1)))))))))), ((cell_far (p := ⟨gb116, _, none⟩) NB131_116.out _).trans (((cell_far (p := ⟨gb116, _, none⟩) NB131_116.out _).trans (((cell_far (p := ⟨gb116, _, none⟩) NB131_116.out _).trans (((cell_far (p := ⟨gb116, _, none⟩) NB131_116.out _).trans (((cell_far (p := ⟨gb116, _, none⟩) NB131_116.out _).trans (hHeld.2.2.2.2.2.2.2.2.1)))))))))), ((cell_far (p := ⟨gb116, _, none⟩) NB131_116.out _).trans (((cell_far (p := ⟨gb116, _, none⟩) NB131_116.out _).trans (((cell_far (p := ⟨gb116, _, none⟩) NB131_116.out _).trans (((cell_far (p := ⟨gb116, _, none⟩) NB131_116.out _).trans (((cell_far (p := ⟨gb116, _, none⟩) NB131_116.out _).trans (hHeld.2.2.2.2.2.2.2.2.2.1)))))))))), ((cell_far (p := ⟨gb116, _, none⟩) NB131_116.out _).trans (((cell_far (p := ⟨gb116, _, none⟩) NB131_116.out _).trans (((cell_far (p := ⟨gb116, _, none⟩) NB131_116.out _).trans (((cell_far (p := ⟨gb116, _, none⟩) NB131_116.out _).trans (((cell_far (p := ⟨gb116, _, none⟩) NB131_116.out _).trans (hHeld.2.2.2.2.2.2.2.2.2.2.1)))))))))), ((cell_far (p := ⟨gb116, _, none⟩) NB131_116.out _).trans (((cell_far (p := ⟨gb116, _, none⟩) NB131_116.out _).trans (((cell_far (p := ⟨gb116, _, none⟩) NB131_116.out _).trans (((cell_far (p := ⟨gb116, _, none⟩) NB131_116.out _).trans (((cell_far (p := ⟨gb116, _, none⟩) NB131_116.out _).trans (hHeld.2.2.2.2.2.2.2.2.2.2.2))))))))))⟩ (fun hHeld => ?_)
  clear hK K
  refine one_ (i := 3) (N := none) #[true, true, true, true] rfl rfl (by kernel_rfl) (by decide) (fun K hK => ?_)
  have hs32 : w26.cell? ⟨gb117, 0, none⟩ = some (.string (⟨#[]⟩ : ByteArray)) := (blk_cell BK117.out 0).trans rfl
  have hfs32 := blk_frozen BK117.out 0
  have hns32_0 := NB115_117.out
  have hns32_1 := NB116_117.out
  have hns32_3 := NB122_117.out
  have hns32_4 := NB131_117.out
  have hms32_0 := NB117_115.out
  have hms32_1 := NB117_116.out
  have hms32_3 := NB117_122.out
  have hms32_4 := NB117_131.out
  have hs33 : w26.cell? ⟨gb117, 1, none⟩ = some (.string (⟨#[]⟩ : ByteArray)) := (blk_cell BK117.out 1).trans rfl
  have hfs33 := blk_frozen BK117.out 1
  have hns33_0 := NB115_117.out
  have hns33_1 := NB116_117.out
  have hns33_3 := NB122_117.out
  have hns33_4 := NB131_117.out
  have hms33_0 := NB117_115.out
  have hms33_1 := NB117_116.out
  have hms33_3 := NB117_122.out
  have hms33_4 := NB117_131.out
  have hs34 : w26.cell? ⟨gb117, 2, none⟩ = some (.int .u32 0) := (blk_cell BK117.out 2).trans rfl
  have hfs34 := blk_frozen BK117.out 2
  have hns34_0 := NB115_117.out
  have hns34_1 := NB116_117.out
  have hns34_3 := NB122_117.out
  have hns34_4 := NB131_117.out
  have hms34_0 := NB117_115.out
  have hms34_1 := NB117_116.out
  have hms34_3 := NB117_122.out
  have hms34_4 := NB117_131.out
  have hs35 : w26.cell? ⟨gb117, 3, none⟩ = some (.int .u32 0) := (blk_cell BK117.out 3).trans rfl
  have hfs35 := blk_frozen BK117.out 3
  have hns35_0 := NB115_117.out
  have hns35_1 := NB116_117.out
  have hns35_3 := NB122_117.out
  have hns35_4 := NB131_117.out
  have hms35_0 := NB117_115.out
  have hms35_1 := NB117_116.out
  have hms35_3 := NB117_122.out
  have hms35_4 := NB117_131.out
  have hs36 : w26.cell? ⟨gb117, 4, none⟩ = some (.int .u32 0) := (blk_cell BK117.out 4).trans rfl
  have hfs36 := blk_frozen BK117.out 4
  have hns36_0 := NB115_117.out
  have hns36_1 := NB116_117.out
  have hns36_3 := NB122_117.out
  have hns36_4 := NB131_117.out
  have hms36_0 := NB117_115.out
  have hms36_1 := NB117_116.out
  have hms36_3 := NB117_122.out
  have hms36_4 := NB117_131.out
  have hs37 : w26.cell? ⟨gb117, 5, none⟩ = some (.int .u32 0) := (blk_cell BK117.out 5).trans rfl
  have hfs37 := blk_frozen BK117.out 5
  have hns37_0 := NB115_117.out
  have hns37_1 := NB116_117.out
  have hns37_3 := NB122_117.out
  have hns37_4 := NB131_117.out
  have hms37_0 := NB117_115.out
  have hms37_1 := NB117_116.out
  have hms37_3 := NB117_122.out
  have hms37_4 := NB117_131.out
  have hs38 : w26.cell? ⟨gb117, 6, none⟩ = some (.int .u32 0) := (blk_cell BK117.out 6).trans rfl
  have hfs38 := blk_frozen BK117.out 6
  have hns38_0 := NB115_117.out
  have hns38_1 := NB116_117.out
  have hns38_3 := NB122_117.out
  have hns38_4 := NB131_117.out
  have hms38_0 := NB117_115.out
  have hms38_1 := NB117_116.out
  have hms38_3 := NB117_122.out
  have hms38_4 := NB117_131.out
  refine skip_ (w1 := ?_) (by rfl) rfl ?_ ?_
  rotate_left
  ·go_simp
   rfl
  refine hK.out _ _ ⟨((cell_far (p := ⟨gb117, _, none⟩) NB122_117.out _).trans (((cell_far (p := ⟨gb117, _, none⟩) NB122_117.out _).trans (((cell_far (p := ⟨gb117, _, none⟩) NB122_117.out _).trans (((cell_far (p := ⟨gb117, _, none⟩) NB122_117.out _).trans (((cell_far (p := ⟨gb117, _, none⟩) NB122_117.out _).trans (((cell_far (p := ⟨gb117, _, none⟩) NB122_117.out _).trans (((cell_far (p := ⟨gb117, _, none⟩) NB122_117.out _).trans (hHeld.1)))))))))))))), ((cell_far (p := ⟨gb117, _, none⟩) NB122_117.out _).trans (((cell_far (p := ⟨gb117, _, none⟩) NB122_117.out _).trans (((cell_far (p := ⟨gb117, _, none⟩) NB122_117.out _).trans (((cell_far (p := ⟨gb117, _, none⟩) NB122_117.out _).trans (((cell_far (p := ⟨gb117, _, none⟩) NB122_117.out _).trans (((cell_far (p := ⟨gb117, _, none⟩) NB122_117.out _).trans (((cell_far (p := ⟨gb117, _, none⟩) NB122_117.out _).trans (hHeld.2.1)))))))))))))), ((cell_far (p := ⟨gb117, _, none⟩) NB122_117.out _).trans (((cell_far (p := ⟨gb117, _, none⟩) NB122_117.out _).trans (((cell_far (p := ⟨gb117, _, none⟩) NB122_117.out _).trans (((cell_far (p := ⟨gb117, _, none⟩) NB122_117.out _).trans (((cell_far (p := ⟨gb117, _, none⟩) NB122_117.out _).trans (((cell_far (p := ⟨gb117, _, none⟩) NB122_117.out _).trans (((cell_far (p := ⟨gb117, _, none⟩) NB122_117.out _).trans (hHeld.2.2.1)))))))))))))), ((cell_far (p := ⟨gb117, _, none⟩) NB122_117.out _).trans (((cell_far (p := ⟨gb117, _, none⟩) NB122_117.out _).trans (((cell_far (p := ⟨gb117, _, none⟩) NB122_117.out _).trans (((cell_far (p := ⟨gb117, _, none⟩) NB122_117.out _).trans (((cell_far (p := ⟨gb117, _, none⟩) NB122_117.out _).trans (((cell_far (p := ⟨gb117, _, none⟩) NB122_117.out _).trans (((cell_far (p := ⟨gb117, _, none⟩) NB122_117.out _).trans (hHeld.2.2.2.1)))))))))))))), ((cell_far (p := ⟨gb117, _, none⟩) NB122_117.out _).trans (((cell_far (p := ⟨gb117, _, none⟩) NB122_117.out _).trans (((cell_far (p := ⟨gb117, _, none⟩) NB122_117.out _).trans (((cell_far (p := ⟨gb117, _, none⟩) NB122_117.out _).trans (((cell_far (p := ⟨gb117, _, none⟩) NB122_117.out _).trans (((cell_far (p := ⟨gb117, _, none⟩) NB122_117.out _).trans (((cell_far (p := ⟨gb117, _, none⟩) NB122_117.out _).trans (hHeld.2.2.2.2.1)))))))))))))), ((cell_far (p := ⟨gb117, _, none⟩) NB131_117.out _).trans (((cell_far (p := ⟨gb117, _, none⟩) NB131_117.out _).trans (((cell_far (p := ⟨gb117, _, none⟩) NB131_117.out _).trans (((cell_far (p := ⟨gb117, _, none⟩) NB131_117.out _).trans (((cell_far (p := ⟨gb117, _, none⟩) NB131_117.out _).trans (((cell_far (p := ⟨gb117, _, none⟩) NB131_117.out _).trans (((cell_far (p := ⟨gb117, _, none⟩) NB131_117.out _).trans (hHeld.2.2.2.2.2.1)))))))))))))), ((cell_far (p := ⟨gb117, _, none⟩) NB131_117.out _).trans (((cell_far (p := ⟨gb117, _, none⟩) NB131_117.out _).trans (((cell_far (p := ⟨gb117, _, none⟩) NB131_117.out _).trans (((cell_far (p := ⟨gb117, _, none⟩) NB131_117.out _).trans (((cell_far (p := ⟨gb117, _, none⟩) NB131_117.out _).trans (((cell_far (p := ⟨gb117, _, none⟩) NB131_117.out _).trans (((cell_far (p := ⟨gb117, _, none⟩) NB131_117.out _).trans (hHeld.2.2.2.2.2.2.1)))))))))))))), ((cell_far (p := ⟨gb117, _, none⟩) NB131_117.out _).trans (((cell_far (p := ⟨gb117, _, none⟩) NB131_117.out _).trans (((cell_far (p := ⟨gb117, _, none⟩) NB131_117.out _).trans (((cell_far (p := ⟨gb117, _, none⟩) NB131_117.out _).trans (((cell_far (p := ⟨gb117, _, none⟩) NB131_117.out _).trans (((cell_far (p := ⟨gb117, _, none⟩) NB131_117.out _).trans (((cell_far (p := ⟨gb117, _, none⟩) NB131_117.out _).trans (hHeld.2.2.2.2.2.2.2.1)))))))))))))), ((cell_far (p := ⟨gb117, _, none⟩) NB131_117.out _).trans (((cell_far (p := ⟨gb117, _, none⟩) NB131_117.out _).trans (((cell_far (p := ⟨gb117, _, none⟩) NB131_117.out _).trans (((cell_far (p := ⟨gb117, _, none⟩) NB131_117.out _).trans (((cell_far (p := ⟨gb117, _, none⟩) NB131_117.out _).trans (((cell_far (p := ⟨gb117, _, none⟩) NB131_117.out _).trans (((cell_far (p := ⟨gb117, _, none⟩) NB131_117.out _).trans (hHeld.2.2.2.2.2.2.2.2.1)))))))))))))), ((cell_far (p := ⟨gb117, _, none⟩) NB131_117.out _).trans (((cell_far (p := ⟨gb117, _, none⟩) NB131_117.out _).trans (((cell_far (p := ⟨gb117, _, none⟩) NB131_117.out _).trans (((cell_far (p := ⟨gb117, _, none⟩) NB131_117.out _).trans (((cell_far (p := ⟨gb117, _, none⟩) NB131_117.out _).trans (((cell_far (p := ⟨gb117, _, none⟩) NB131_117.out _).trans (((cell_far (p := ⟨gb117, _, none⟩) NB131_117.out _).trans (hHeld.2.2.2.2.2.2.2.2.2.1)))))))))))))), ((cell_far (p := ⟨gb117, _, none⟩) NB131_117.out _).trans (((cell_far (p := ⟨gb117, _, none⟩) NB131_117.out _).trans (((cell_far (p := ⟨gb117, _, none⟩) NB131_117.out _).trans (((cell_far (p := ⟨gb117, _, none⟩) NB131_117.out _).trans (((cell_far (p := ⟨gb117, _, none⟩) NB131_117.out _).trans (((cell_far (p := ⟨gb117, _, none⟩) NB131_117.out _).trans (((cell_far (p := ⟨gb117, _, none⟩) NB131_117.out _).trans (hHeld.2.2.2.2.2.2.2.2.2.2.1)))))))))))))), ((cell_far (p := ⟨gb117, _, none⟩) NB131_117.out _).trans (((cell_far (p := ⟨gb117, _, none⟩) NB131_117.out _).trans (((cell_far (p := ⟨gb117, _, none⟩) NB131_117.out _).trans (((cell_far (p := ⟨gb117, _, none⟩) NB131_117.out _).trans (((cell_far (p := ⟨gb117, _, none⟩) NB131_117.out _).trans (((cell_far (p := ⟨gb117, _, none⟩) NB131_117.out _).trans (((cell_far (p := ⟨gb117, _, none⟩) NB131_117.out _).trans (hHeld.2.2.2.2.2.2.2.2.2.2.2))))))))))))))⟩ (fun hHeld => ?_)
  clear hK K
  refine done_ (by kernel_rfl) ?_
  try go_wp2
  refine bodyPost_ret (results_cc rfl _ _ gb116 gb117 35 38 #[.string ((rd_T35 t118 0).f0), .int .i64 ((rd_T35 t118 0).f1), .int .i64 ((rd_T35 t118 0).f2), .int .i64 ((rd_T35 t118 0).f3), .string ((rd_T35 t118 0).f4)] #[.string t123, .string t124, .int .u32 t125, .int .u32 t126, .int .u32 t127, .int .u32 t128, .int .u32 t129] (0, 0) (0, 0) _ _ rfl (by (with_reducible repeat (first | refine blk_drewN ?_ _ | refine blk_drew ?_ | refine blk_alloc ?_ _)); refine blk_far ?_ NB116_117.out _; (with_reducible repeat (first | refine blk_drewN ?_ _ | refine blk_drew ?_ | refine blk_alloc ?_ _)); refine blk_far ?_ NB116_117.out _; (with_reducible repeat (first | refine blk_drewN ?_ _ | refine blk_drew ?_ | refine blk_alloc ?_ _)); refine blk_far ?_ NB116_117.out _; (with_reducible repeat (first | refine blk_drewN ?_ _ | refine blk_drew ?_ | refine blk_alloc ?_ _)); refine blk_far ?_ NB116_117.out _; (with_reducible repeat (first | refine blk_drewN ?_ _ | refine blk_drew ?_ | refine blk_alloc ?_ _)); refine blk_far ?_ NB116_117.out _; (with_reducible repeat (first | refine blk_drewN ?_ _ | refine blk_drew ?_ | refine blk_alloc ?_ _)); refine blk_far ?_ NB116_117.out _; (with_reducible repeat (first | refine blk_drewN ?_ _ | refine blk_drew ?_ | refine blk_alloc ?_ _)); refine blk_far ?_ NB116_117.out _; (with_reducible repeat (first | refine blk_drewN ?_ _ | refine blk_drew ?_ | refine blk_alloc ?_ _)); refine blk_put (cs := #[.string ((rd_T35 t118 0).f0), .int .i64 ((rd_T35 t118 0).f1), .int .i64 ((rd_T35 t118 0).f2), .int .i64 ((rd_T35 t118 0).f3), .string (⟨#[]⟩ : ByteArray)]) ?_ 4 _ rfl; (with_reducible repeat (first | refine blk_drewN ?_ _ | refine blk_drew ?_ | refine blk_alloc ?_ _)); refine blk_put (cs := #[.string ((rd_T35 t118 0).f0), .int .i64 ((rd_T35 t118 0).f1), .int .i64 ((rd_T35 t118 0).f2), .int .i64 0, .string (⟨#[]⟩ : ByteArray)]) ?_ 3 _ rfl; (with_reducible repeat (first | refine blk_drewN ?_ _ | refine blk_drew ?_ | refine blk_alloc ?_ _)); refine blk_put (cs := #[.string ((rd_T35 t118 0).f0), .int .i64 ((rd_T35 t118 0).f1), .int .i64 0, .int .i64 0, .string (⟨#[]⟩ : ByteArray)]) ?_ 2 _ rfl; (with_reducible repeat (first | refine blk_drewN ?_ _ | refine blk_drew ?_ | refine blk_alloc ?_ _)); refine blk_put (cs := #[.string ((rd_T35 t118 0).f0), .int .i64 0, .int .i64 0, .int .i64 0, .string (⟨#[]⟩ : ByteArray)]) ?_ 1 _ rfl; (with_reducible repeat (first | refine blk_drewN ?_ _ | refine blk_drew ?_ | refine blk_alloc ?_ _)); refine blk_put (cs := #[.string (⟨#[]⟩ : ByteArray), .int .i64 0, .int .i64 0, .int .i64 0, .string (⟨#[]⟩ : ByteArray)]) ?_ 0 _ rfl; (with_reducible repeat (first | refine blk_drewN ?_ _ | refine blk_drew ?_ | refine blk_alloc ?_ _)); exact BK116.out) Tryz.underlying35 rfl (by kernel_rfl) rfl (by (with_reducible repeat (first | refine blk_drewN ?_ _ | refine blk_drew ?_ | refine blk_alloc ?_ _)); refine blk_put (cs := #[.string t123, .string t124, .int .u32 t125, .int .u32 t126, .int .u32 t127, .int .u32 t128, .int .u32 0]) ?_ 6 _ rfl; (with_reducible repeat (first | refine blk_drewN ?_ _ | refine blk_drew ?_ | refine blk_alloc ?_ _)); refine blk_put (cs := #[.string t123, .string t124, .int .u32 t125, .int .u32 t126, .int .u32 t127, .int .u32 0, .int .u32 0]) ?_ 5 _ rfl; (with_reducible repeat (first | refine blk_drewN ?_ _ | refine blk_drew ?_ | refine blk_alloc ?_ _)); refine blk_put (cs := #[.string t123, .string t124, .int .u32 t125, .int .u32 t126, .int .u32 0, .int .u32 0, .int .u32 0]) ?_ 4 _ rfl; (with_reducible repeat (first | refine blk_drewN ?_ _ | refine blk_drew ?_ | refine blk_alloc ?_ _)); refine blk_put (cs := #[.string t123, .string t124, .int .u32 t125, .int .u32 0, .int .u32 0, .int .u32 0, .int .u32 0]) ?_ 3 _ rfl; (with_reducible repeat (first | refine blk_drewN ?_ _ | refine blk_drew ?_ | refine blk_alloc ?_ _)); refine blk_put (cs := #[.string t123, .string t124, .int .u32 0, .int .u32 0, .int .u32 0, .int .u32 0, .int .u32 0]) ?_ 2 _ rfl; (with_reducible repeat (first | refine blk_drewN ?_ _ | refine blk_drew ?_ | refine blk_alloc ?_ _)); refine blk_put (cs := #[.string t123, .string (⟨#[]⟩ : ByteArray), .int .u32 0, .int .u32 0, .int .u32 0, .int .u32 0, .int .u32 0]) ?_ 1 _ rfl; (with_reducible repeat (first | refine blk_drewN ?_ _ | refine blk_drew ?_ | refine blk_alloc ?_ _)); refine blk_put (cs := #[.string (⟨#[]⟩ : ByteArray), .string (⟨#[]⟩ : ByteArray), .int .u32 0, .int .u32 0, .int .u32 0, .int .u32 0, .int .u32 0]) ?_ 0 _ rfl; (with_reducible repeat (first | refine blk_drewN ?_ _ | refine blk_drew ?_ | refine blk_alloc ?_ _)); refine blk_far ?_ NB117_116.out _; (with_reducible repeat (first | refine blk_drewN ?_ _ | refine blk_drew ?_ | refine blk_alloc ?_ _)); refine blk_far ?_ NB117_116.out _; (with_reducible repeat (first | refine blk_drewN ?_ _ | refine blk_drew ?_ | refine blk_alloc ?_ _)); refine blk_far ?_ NB117_116.out _; (with_reducible repeat (first | refine blk_drewN ?_ _ | refine blk_drew ?_ | refine blk_alloc ?_ _)); refine blk_far ?_ NB117_116.out _; (with_reducible repeat (first | refine blk_drewN ?_ _ | refine blk_drew ?_ | refine blk_alloc ?_ _)); refine blk_far ?_ NB117_116.out _; (with_reducible repeat (first | refine blk_drewN ?_ _ | refine blk_drew ?_ | refine blk_alloc ?_ _)); exact BK117.out) Tryz.underlying38 rfl (by kernel_rfl)) rfl ?_
  exact ⟨by first | rfl | (simp [errW_none, errW_some] <;> rfl) | (simp [*, errW_none, errW_some] <;> rfl), by repeat (first | (with_reducible first | exact HB.out | apply below_alloc | apply pw_below_drewN | apply below_drew1 | refine below_set ?_ GE115.out | refine below_set ?_ GE116.out | refine below_set ?_ GE117.out | refine below_set ?_ GE122.out | refine below_set ?_ GE131.out) | exact HB.out)⟩
 ·rw [if_neg c3] at H
  exact absurd H (by simp)
noncomputable def beadrollref14_Zone_Names.l0 : Nat → List ByteArray → Int → ByteArray → List (S35) → Option (List ByteArray)
 | 0, _, _, _, _ => none
 | k + 1, x3, x4, x133000, x133001 => if x4 < (x133001.length : Int) then (if 0 ≤ x4 then ((beadrollref07_Fold.f k ((rd_T35 x133001 x4).f0)).bind fun t134 => (if (x3.length : Int) = 0 then (if x3.length < 8796093022208 then (beadrollref14_Zone_Names.l0 k (x3 ++ [t134]) (wrap64 (x4 + 1)) x133000 x133001) else (none)) else (if 0 ≤ (wrap64 ((x3.length : Int) - 1)) then (if (wrap64 ((x3.length : Int) - 1)) < (x3.length : Int) then (if (rdOf ByteArray.empty x3 (wrap64 ((x3.length : Int) - 1))).toList = t134.toList then (beadrollref14_Zone_Names.l0 k x3 (wrap64 (x4 + 1)) x133000 x133001) else (if x3.length < 8796093022208 then (beadrollref14_Zone_Names.l0 k (x3 ++ [t134]) (wrap64 (x4 + 1)) x133000 x133001) else (none))) else (none)) else (none)))) else (none)) else (some x3)
noncomputable def beadrollref14_Zone_Names.f (k : Nat) (a0_0 : ByteArray) (l0_1 : List (S35)) : Option (List ByteArray) := beadrollref14_Zone_Names.l0 k ([] : List ByteArray) 0 a0_0 l0_1
set_option maxHeartbeats 8000000 in
set_option maxRecDepth 100000 in
theorem beadrollref14_Zone_Names.calls (k : Nat) (a0_0 : ByteArray) (A0_1 : Option Addr) (c0_1 : Nat) (l0_1 : List (S35)) (r : List ByteArray) (w : World) (hr0_1 : Kd.C k35 w A0_1 l0_1.length l0_1) (hc0_1 : l0_1.length ≤ c0_1) (h : beadrollref14_Zone_Names.f k a0_0 l0_1 = some r) :
  Calls Tryz.prog 26 #[.agg #[.string a0_0, .slice A0_1 l0_1.length c0_1]] w fun e w' => ∃ v0_ : Value, e = .returned (v0_) ∧ Kd.R Kd.string 9 w' w.heap.size (fun _ => True) v0_ r ∧ Below w.heap.size w w' := by
 have hu31 := Tryz.underlying31
 have HR0_1 := Aside0.mk hr0_1
 have HC0_1 := Aside0.mk hc0_1
 clear hr0_1 hc0_1
 have HB := Aside0.mk (Below.refl w.heap.size w)
 have H : (beadrollref14_Zone_Names.l0 k ([] : List ByteArray) 0 a0_0 l0_1) = some r := h
 clear h
 have H' := Aside0.mk H
 clear H
 go_enter Tryz.func26, Tryz.ntmps26
 go_wp2_with (first | ((with_reducible refine gate_dst (N := 1) rfl ?_); (try (refine gate_guard (by rfl) ?_; dsimp only)); refine box_event ?hg (N := 1) ?hd (cs := #[.string a0_0, .slice A0_1 l0_1.length c0_1]) (t := 31) ?hr ?_; (case hd => rfl); (case hg => rfl); (case hr => first | (go_simp; done) | (go_simp; rfl)); intro gb132 hg w2 hbox hb; have n0_ := Aside0.mk (below_step (by repeat (first | (with_reducible first | exact HB.out | apply below_alloc | apply pw_below_drewN | apply below_drew1) | exact HB.out)) hb); have n1_ := Aside0.mk (hbox); have n2_ := Aside0.mk ((by rw [hg]; exact (below_size (by repeat (first | (with_reducible first | exact HB.out | apply below_alloc | apply pw_below_drewN | apply below_drew1) | exact HB.out))) : w.heap.size ≤ gb132)); have n3_ := Aside0.mk ((by rw [hg]; exact (below_size (by repeat (first | (with_reducible first | exact HB.out | apply below_alloc | apply pw_below_drewN | apply below_drew1) | exact HB.out))) : w.heap.size ≤ gb132)); clear HB; have HB := n0_; have BK132 := n1_; have GW132 := n2_; have GE132 := n3_; clear n0_ n1_ n2_ n3_; clear hb hbox hg))
 go_loopg [3, 4] k (fun kq v3 v4 w' => ∃ (x3_1 : List ByteArray) (x4_1 : Int), v4 = .int .i64 x4_1 ∧ Aside0 (beadrollref14_Zone_Names.l0 kq x3_1 x4_1 a0_0 l0_1 = some r) ∧ Aside0 (kq ≤ k) ∧ Aside0 (Kd.R Kd.string 9 w' w.heap.size (fun _ => True) v3 x3_1) ∧ Aside0 (w'.heap[gb132]? = some (.cells #[.string a0_0, (.slice A0_1 l0_1.length c0_1)] 31 (0, 0))) ∧ Aside0 (Below w.heap.size w w'))
 case atStart => exact ⟨(([] : List ByteArray)), (0), (by first | rfl | (simp; done) | (simp [*]; done)), H', ⟨Nat.le_refl _⟩, ⟨by first | exact Kd.R_nil _ _ _ _ _ | exact Kd.N_nil _ _ _ _ _ | exact Kd.V_nil _ _ _ _ _ | exact Kd.Q_nil _ _ _ _ _ | exact Kd.S_nil _ _ _ _ _⟩, ⟨by (with_reducible repeat (first | refine blk_drewN ?_ _ | refine blk_drew ?_ | refine blk_alloc ?_ _)); exact BK132.out⟩, ⟨by repeat (first | (with_reducible first | exact HB.out | apply below_alloc | apply pw_below_drewN | apply below_drew1 | refine below_set ?_ GE132.out) | exact HB.out)⟩⟩
 case round =>
  clear H'
  try clear c2
  try clear p2
  obtain ⟨x3_1, x4_1, rfl, HA, HK1, HO_3, BK132, HB⟩ := hrel
  cases gk with
  | zero => exact absurd HA.out (by simp [beadrollref14_Zone_Names.l0])
  | succ k1 =>
   have H := HA.out
   clear HA
   simp only [beadrollref14_Zone_Names.l0] at H
   by_cases c3 : x4_1 < (l0_1.length : Int)
   ·rw [if_pos c3] at H
    have c3b0 : decide (x4_1 < (l0_1.length : Int)) = true := decide_eq_true c3
    clear c3
    by_cases c4 : 0 ≤ x4_1
    ·rw [if_pos c4] at H
     have c4b0 : decide (0 ≤ x4_1) = true := decide_eq_true c4
     clear c4
     replace H := Option.bind_eq_some_iff.mp H
     obtain ⟨t134, A50, H⟩ := H
     replace H : (if (x3_1.length : Int) = 0 then (if x3_1.length < 8796093022208 then (beadrollref14_Zone_Names.l0 k1 (x3_1 ++ [t134]) (wrap64 (x4_1 + 1)) a0_0 l0_1) else (none)) else (if 0 ≤ (wrap64 ((x3_1.length : Int) - 1)) then (if (wrap64 ((x3_1.length : Int) - 1)) < (x3_1.length : Int) then (if (rdOf ByteArray.empty x3_1 (wrap64 ((x3_1.length : Int) - 1))).toList = t134.toList then (beadrollref14_Zone_Names.l0 k1 x3_1 (wrap64 (x4_1 + 1)) a0_0 l0_1) else (if x3_1.length < 8796093022208 then (beadrollref14_Zone_Names.l0 k1 (x3_1 ++ [t134]) (wrap64 (x4_1 + 1)) a0_0 l0_1) else (none))) else (none)) else (none))) = some r := H
     have A5 := Aside0.mk A50
     clear A50
     by_cases c6 : (x3_1.length : Int) = 0
     ·rw [if_pos c6] at H
      have c6b0 : ((x3_1.length : Int) == 0) = true := beq_iff_eq.mpr c6
      have c6b1 : ((x3_1.length : Int) != 0) = false := bne_eq_false_iff_eq.mpr c6
      clear c6
      by_cases c7 : x3_1.length < 8796093022208
      ·rw [if_pos c7] at H
       have LMc7 := Aside0.mk c7
       clear c7
       obtain ⟨y135, hy135⟩ : ∃ y_ : List ByteArray, y_ = (x3_1 ++ [t134]) := ⟨_, rfl⟩
       replace H : (beadrollref14_Zone_Names.l0 k1 y135 (wrap64 (x4_1 + 1)) a0_0 l0_1) = some r := by first | (rw [hy135]; with_reducible exact H) | (have H2_ := (Option.bind_some _ _).symm.trans H; rw [hy135]; with_reducible exact H2_) | (have H2_ := (Option.bind_some _ _).symm.trans H; with_reducible exact H2_) | with_reducible exact H | (rw [hy135]; exact H) | exact H
       have Ny135 := Aside0.mk hy135
       clear hy135
       have H' := Aside0.mk H
       clear H
       have hcz8_0 : wr.cell? ⟨gb132, 0, none⟩ = some (.string a0_0) := (blk_cell BK132.out 0).trans rfl
       have hcz8_1 : wr.cell? ⟨gb132, 1, none⟩ = some (.slice A0_1 l0_1.length c0_1) := (blk_cell BK132.out 1).trans rfl
       have hfz8_0 := blk_frozen BK132.out 0
       have hfz8_1 := blk_frozen BK132.out 1
       have p133 : 0 ≤ (x4_1 : Int) := of_decide_eq_true (by first | (with_reducible assumption) | assumption)
       have q133 : x4_1 < (l0_1.length : Int) := of_decide_eq_true (by first | (with_reducible assumption) | assumption)
       obtain ⟨ad133, e133, hx133_0, hx133_1, hx133_2, hx133_3, hx133_4⟩ := at_T35 HR0_1.out x4_1 p133 q133
       cases e133
       replace hx133_0 := (HB.out.cell (World.block_lt_of_cell? w _ hx133_0)).trans hx133_0
       replace hx133_1 := (HB.out.cell (World.block_lt_of_cell? w _ hx133_1)).trans hx133_1
       replace hx133_2 := (HB.out.cell (World.block_lt_of_cell? w _ hx133_2)).trans hx133_2
       replace hx133_3 := (HB.out.cell (World.block_lt_of_cell? w _ hx133_3)).trans hx133_3
       replace hx133_4 := (HB.out.cell (World.block_lt_of_cell? w _ hx133_4)).trans hx133_4
       replace p133 := eq_true p133
       replace q133 := eq_true q133
       go_wp2_with (first | ((with_reducible refine gate_callee (f := 75) rfl ?_); refine goesL_ (some 19) rfl rfl Tryz.func75 (by kernel_rfl) rfl #[.string ((rd_T35 l0_1 x4_1).f0)] rfl (by (try simp only [List.map_toArray, List.map_cons, List.map_nil]); first | done | rfl | (simp only [List.length_drop, List.length_take]; rfl)) ?_; (with_reducible refine (beadrollref07_Fold.calls k1 ((rd_T35 l0_1 x4_1).f0) t134 _ A5.out).mono ?_); rintro e w9 ⟨rfl, hb⟩; refine ⟨_, rfl, ?_⟩; have n0_ := Aside0.mk (Kd.R_below (by (with_reducible repeat (first | apply Kd.R_alloc | apply Kd.R_drewN | apply Kd.R_drew)); exact HO_3.out) hb); have n1_ := Aside0.mk (blk_below (g := gb132) (o := .cells #[.string a0_0, .slice (some ad133) l0_1.length c0_1] 31 (0, 0)) (by (with_reducible repeat (first | refine blk_drewN ?_ _ | refine blk_drew ?_ | refine blk_alloc ?_ _)); exact BK132.out) hb); have n2_ := Aside0.mk (below_step (by repeat (first | (with_reducible first | exact HB.out | apply below_alloc | apply pw_below_drewN | apply below_drew1 | refine below_set ?_ GE132.out) | exact HB.out)) hb); clear HO_3; clear BK132; clear HB; have HO_3 := n0_; have BK132 := n1_; have HB := n2_; clear n0_ n1_ n2_; (try clear hb); (try clear hb2); (try clear hk); (try clear hi); obtain ⟨Ao10, co10, eo10⟩ := Kd.R_slice HO_3.out; subst eo10) | ((with_reducible refine gate_builtin (b := .append) (xs := #[.tmp 33, .tmp 35]) rfl ?_); (try (refine gate_guard (by rfl) ?_; dsimp only)); at_builtin; refine Kd.R_append Kd.string (w0 := w) w.heap.size rfl (.tmp 33) (.tmp 35) 45 9 (.string ⟨#[]⟩) 16 rfl Tryz.underlying45 info9 rfl (by decide) (by omega) (.slice Ao10 x3_1.length co10) x3_1 t134 [.string t134] (fun _ => True) (fun _ => False) rfl rfl ?aP (fun _ hk => hk.elim) ?aF ?aO ?aB ?aS ?aL ?_; (case aP => exact rfl); (case aB => exact (by repeat (first | (with_reducible first | exact HB.out | apply below_alloc | apply pw_below_drewN | apply below_drew1 | refine below_set ?_ GE132.out) | exact HB.out))); (case aF => exact (fun _ _ => trivial)); (case aO => exact (by (with_reducible repeat (first | apply Kd.R_alloc | apply Kd.R_drewN | apply Kd.R_drew)); exact HO_3.out)); (case aS => exact (below_size (by repeat (first | (with_reducible first | exact HB.out | apply below_alloc | apply pw_below_drewN | apply below_drew1 | refine below_set ?_ GE132.out) | exact HB.out)))); (case aL => have := LMc7.out; omega); intro v136 w11 ho hb hg hat; rw [← Ny135.out] at ho; have n0_ := Aside0.mk (blk_grown (g := gb132) (o := .cells #[.string a0_0, .slice (some ad133) l0_1.length c0_1] 31 (0, 0)) (by (with_reducible repeat (first | refine blk_drewN ?_ _ | refine blk_drew ?_ | refine blk_alloc ?_ _)); exact BK132.out) hg (Kd.R_ne HO_3.out BK132.out (by decide))); have n1_ := Aside0.mk (hb); have n2_ := Aside0.mk (ho); clear BK132; clear HB; clear HO_3; have BK132 := n0_; have HB := n1_; have HO137 := n2_; clear n0_ n1_ n2_; clear ho hb hg hat))
       go_roundg k1
       case measure => have := HK1.out; omega
       case rel => exact ⟨(y135), (wrap64 (x4_1 + 1)), (by first | rfl | (simp; done) | (simp [*]; done)), H', ⟨by have := HK1.out; omega⟩, ⟨by (with_reducible repeat (first | apply Kd.R_alloc | apply Kd.R_drewN | apply Kd.R_drew)); exact HO137.out⟩, ⟨by (with_reducible repeat (first | refine blk_drewN ?_ _ | refine blk_drew ?_ | refine blk_alloc ?_ _)); exact BK132.out⟩, ⟨by repeat (first | (with_reducible first | exact HB.out | apply below_alloc | apply pw_below_drewN | apply below_drew1 | refine below_set ?_ GE132.out) | exact HB.out)⟩⟩
      ·rw [if_neg c7] at H
       exact absurd H (by simp)
     ·rw [if_neg c6] at H
      have c6b0 : ((x3_1.length : Int) == 0) = false := beq_eq_false_iff_ne.mpr c6
      have c6b1 : ((x3_1.length : Int) != 0) = true := bne_iff_ne.mpr c6
      have c6b2 : ¬ (x3_1 = []) := fun h_ => c6 (by rw [h_]; rfl)
      obtain ⟨ji12, hji12⟩ : ∃ j_ : Int, (wrap64 ((x3_1.length : Int) - 1)) = j_ := ⟨_, rfl⟩
      replace H : (if 0 ≤ (ji12) then (if (ji12) < (x3_1.length : Int) then (if (rdOf ByteArray.empty x3_1 (ji12)).toList = t134.toList then (beadrollref14_Zone_Names.l0 k1 x3_1 (wrap64 (x4_1 + 1)) a0_0 l0_1) else (if x3_1.length < 8796093022208 then (beadrollref14_Zone_Names.l0 k1 (x3_1 ++ [t134]) (wrap64 (x4_1 + 1)) a0_0 l0_1) else (none))) else (none)) else (none)) = some r := by first | (rw [hji12] at H; exact H) | (simp only [hji12] at H ⊢; exact H)
      (try rw [hji12] at A5)
      have hji12w : (IntKind.i64.wrap ((x3_1.length : Int) - 1)) = ji12 := (i64_w _).trans hji12
      by_cases c13 : 0 ≤ (ji12)
      ·rw [if_pos c13] at H
       have c13b0 : decide (0 ≤ (ji12)) = true := decide_eq_true c13
       clear c13
       by_cases c14 : (ji12) < (x3_1.length : Int)
       ·rw [if_pos c14] at H
        have c14b0 : decide ((ji12) < (x3_1.length : Int)) = true := decide_eq_true c14
        clear c14
        by_cases c15 : (rdOf ByteArray.empty x3_1 (ji12)).toList = t134.toList
        ·rw [if_pos c15] at H
         have c15b0 : ((rdOf ByteArray.empty x3_1 (ji12)).toList == t134.toList) = true := beq_iff_eq.mpr c15
         have c15b1 : ((rdOf ByteArray.empty x3_1 (ji12)).toList != t134.toList) = false := bne_eq_false_iff_eq.mpr c15
         clear c15
         have H' := Aside0.mk H
         clear H
         have hcz16_0 : wr.cell? ⟨gb132, 0, none⟩ = some (.string a0_0) := (blk_cell BK132.out 0).trans rfl
         have hcz16_1 : wr.cell? ⟨gb132, 1, none⟩ = some (.slice A0_1 l0_1.length c0_1) := (blk_cell BK132.out 1).trans rfl
         have hfz16_0 := blk_frozen BK132.out 0
         have hfz16_1 := blk_frozen BK132.out 1
         have p133 : 0 ≤ (x4_1 : Int) := of_decide_eq_true (by first | (with_reducible assumption) | assumption)
         have q133 : x4_1 < (l0_1.length : Int) := of_decide_eq_true (by first | (with_reducible assumption) | assumption)
         obtain ⟨ad133, e133, hx133_0, hx133_1, hx133_2, hx133_3, hx133_4⟩ := at_T35 HR0_1.out x4_1 p133 q133
         cases e133
         replace hx133_0 := (HB.out.cell (World.block_lt_of_cell? w _ hx133_0)).trans hx133_0
         replace hx133_1 := (HB.out.cell (World.block_lt_of_cell? w _ hx133_1)).trans hx133_1
         replace hx133_2 := (HB.out.cell (World.block_lt_of_cell? w _ hx133_2)).trans hx133_2
         replace hx133_3 := (HB.out.cell (World.block_lt_of_cell? w _ hx133_3)).trans hx133_3
         replace hx133_4 := (HB.out.cell (World.block_lt_of_cell? w _ hx133_4)).trans hx133_4
         replace p133 := eq_true p133
         replace q133 := eq_true q133
         go_wp2_with (first | ((with_reducible refine gate_callee (f := 75) rfl ?_); refine goesL_ (some 19) rfl rfl Tryz.func75 (by kernel_rfl) rfl #[.string ((rd_T35 l0_1 x4_1).f0)] rfl (by (try simp only [List.map_toArray, List.map_cons, List.map_nil]); first | done | rfl | (simp only [List.length_drop, List.length_take]; rfl)) ?_; (with_reducible refine (beadrollref07_Fold.calls k1 ((rd_T35 l0_1 x4_1).f0) t134 _ A5.out).mono ?_); rintro e w17 ⟨rfl, hb⟩; refine ⟨_, rfl, ?_⟩; have n0_ := Aside0.mk (Kd.R_below (by (with_reducible repeat (first | apply Kd.R_alloc | apply Kd.R_drewN | apply Kd.R_drew)); exact HO_3.out) hb); have n1_ := Aside0.mk (blk_below (g := gb132) (o := .cells #[.string a0_0, .slice (some ad133) l0_1.length c0_1] 31 (0, 0)) (by (with_reducible repeat (first | refine blk_drewN ?_ _ | refine blk_drew ?_ | refine blk_alloc ?_ _)); exact BK132.out) hb); have n2_ := Aside0.mk (below_step (by repeat (first | (with_reducible first | exact HB.out | apply below_alloc | apply pw_below_drewN | apply below_drew1 | refine below_set ?_ GE132.out) | exact HB.out)) hb); clear HO_3; clear BK132; clear HB; have HO_3 := n0_; have BK132 := n1_; have HB := n2_; clear n0_ n1_ n2_; (try clear hb); (try clear hb2); (try clear hk); (try clear hi); obtain ⟨Ao18, co18, eo18⟩ := Kd.R_slice HO_3.out; subst eo18; have p138 : 0 ≤ ((ji12) : Int) := of_decide_eq_true (by first | (with_reducible assumption) | assumption); have q138 : (ji12) < (x3_1.length : Int) := of_decide_eq_true (by first | (with_reducible assumption) | assumption); obtain ⟨ad138, e138, hx138_0⟩ := Kd.at_string (Kd.R_reads' HO_3.out).2.2 (ji12) p138 q138; cases e138; replace p138 := eq_true p138; replace q138 := eq_true q138))
         go_roundg k1
         case measure => have := HK1.out; omega
         case rel => exact ⟨(x3_1), (wrap64 (x4_1 + 1)), (by first | rfl | (simp; done) | (simp [*]; done)), H', ⟨by have := HK1.out; omega⟩, ⟨by (with_reducible repeat (first | apply Kd.R_alloc | apply Kd.R_drewN | apply Kd.R_drew)); exact HO_3.out⟩, ⟨by (with_reducible repeat (first | refine blk_drewN ?_ _ | refine blk_drew ?_ | refine blk_alloc ?_ _)); exact BK132.out⟩, ⟨by repeat (first | (with_reducible first | exact HB.out | apply below_alloc | apply pw_below_drewN | apply below_drew1 | refine below_set ?_ GE132.out) | exact HB.out)⟩⟩
        ·rw [if_neg c15] at H
         have c15b0 : ((rdOf ByteArray.empty x3_1 (ji12)).toList == t134.toList) = false := beq_eq_false_iff_ne.mpr c15
         have c15b1 : ((rdOf ByteArray.empty x3_1 (ji12)).toList != t134.toList) = true := bne_iff_ne.mpr c15
         by_cases c19 : x3_1.length < 8796093022208
         ·rw [if_pos c19] at H
          have LMc19 := Aside0.mk c19
          clear c19
          obtain ⟨y139, hy139⟩ : ∃ y_ : List ByteArray, y_ = (x3_1 ++ [t134]) := ⟨_, rfl⟩
          replace H : (beadrollref14_Zone_Names.l0 k1 y139 (wrap64 (x4_1 + 1)) a0_0 l0_1) = some r := by first | (rw [hy139]; with_reducible exact H) | (have H2_ := (Option.bind_some _ _).symm.trans H; rw [hy139]; with_reducible exact H2_) | (have H2_ := (Option.bind_some _ _).symm.trans H; with_reducible exact H2_) | with_reducible exact H | (rw [hy139]; exact H) | exact H
          have Ny139 := Aside0.mk hy139
          clear hy139
          have H' := Aside0.mk H
          clear H
          have hcz20_0 : wr.cell? ⟨gb132, 0, none⟩ = some (.string a0_0) := (blk_cell BK132.out 0).trans rfl
          have hcz20_1 : wr.cell? ⟨gb132, 1, none⟩ = some (.slice A0_1 l0_1.length c0_1) := (blk_cell BK132.out 1).trans rfl
          have hfz20_0 := blk_frozen BK132.out 0
          have hfz20_1 := blk_frozen BK132.out 1
          have p133 : 0 ≤ (x4_1 : Int) := of_decide_eq_true (by first | (with_reducible assumption) | assumption)
          have q133 : x4_1 < (l0_1.length : Int) := of_decide_eq_true (by first | (with_reducible assumption) | assumption)
          obtain ⟨ad133, e133, hx133_0, hx133_1, hx133_2, hx133_3, hx133_4⟩ := at_T35 HR0_1.out x4_1 p133 q133
          cases e133
          replace hx133_0 := (HB.out.cell (World.block_lt_of_cell? w _ hx133_0)).trans hx133_0
          replace hx133_1 := (HB.out.cell (World.block_lt_of_cell? w _ hx133_1)).trans hx133_1
          replace hx133_2 := (HB.out.cell (World.block_lt_of_cell? w _ hx133_2)).trans hx133_2
          replace hx133_3 := (HB.out.cell (World.block_lt_of_cell? w _ hx133_3)).trans hx133_3
          replace hx133_4 := (HB.out.cell (World.block_lt_of_cell? w _ hx133_4)).trans hx133_4
          replace p133 := eq_true p133
          replace q133 := eq_true q133
          go_wp2_with (first | ((with_reducible refine gate_callee (f := 75) rfl ?_); refine goesL_ (some 19) rfl rfl Tryz.func75 (by kernel_rfl) rfl #[.string ((rd_T35 l0_1 x4_1).f0)] rfl (by (try simp only [List.map_toArray, List.map_cons, List.map_nil]); first | done | rfl | (simp only [List.length_drop, List.length_take]; rfl)) ?_; (with_reducible refine (beadrollref07_Fold.calls k1 ((rd_T35 l0_1 x4_1).f0) t134 _ A5.out).mono ?_); rintro e w21 ⟨rfl, hb⟩; refine ⟨_, rfl, ?_⟩; have n0_ := Aside0.mk (Kd.R_below (by (with_reducible repeat (first | apply Kd.R_alloc | apply Kd.R_drewN | apply Kd.R_drew)); exact HO_3.out) hb); have n1_ := Aside0.mk (blk_below (g := gb132) (o := .cells #[.string a0_0, .slice (some ad133) l0_1.length c0_1] 31 (0, 0)) (by (with_reducible repeat (first | refine blk_drewN ?_ _ | refine blk_drew ?_ | refine blk_alloc ?_ _)); exact BK132.out) hb); have n2_ := Aside0.mk (below_step (by repeat (first | (with_reducible first | exact HB.out | apply below_alloc | apply pw_below_drewN | apply below_drew1 | refine below_set ?_ GE132.out) | exact HB.out)) hb); clear HO_3; clear BK132; clear HB; have HO_3 := n0_; have BK132 := n1_; have HB := n2_; clear n0_ n1_ n2_; (try clear hb); (try clear hb2); (try clear hk); (try clear hi); obtain ⟨Ao22, co22, eo22⟩ := Kd.R_slice HO_3.out; subst eo22; have p138 : 0 ≤ ((ji12) : Int) := of_decide_eq_true (by first | (with_reducible assumption) | assumption); have q138 : (ji12) < (x3_1.length : Int) := of_decide_eq_true (by first | (with_reducible assumption) | assumption); obtain ⟨ad138, e138, hx138_0⟩ := Kd.at_string (Kd.R_reads' HO_3.out).2.2 (ji12) p138 q138; cases e138; replace p138 := eq_true p138; replace q138 := eq_true q138) | ((with_reducible refine gate_builtin (b := .append) (xs := #[.tmp 33, .tmp 35]) rfl ?_); (try (refine gate_guard (by rfl) ?_; dsimp only)); at_builtin; refine Kd.R_append Kd.string (w0 := w) w.heap.size rfl (.tmp 33) (.tmp 35) 45 9 (.string ⟨#[]⟩) 16 rfl Tryz.underlying45 info9 rfl (by decide) (by omega) (.slice (some ad138) x3_1.length co22) x3_1 t134 [.string t134] (fun _ => True) (fun _ => False) rfl rfl ?aP (fun _ hk => hk.elim) ?aF ?aO ?aB ?aS ?aL ?_; (case aP => exact rfl); (case aB => exact (by repeat (first | (with_reducible first | exact HB.out | apply below_alloc | apply pw_below_drewN | apply below_drew1 | refine below_set ?_ GE132.out) | exact HB.out))); (case aF => exact (fun _ _ => trivial)); (case aO => exact (by (with_reducible repeat (first | apply Kd.R_alloc | apply Kd.R_drewN | apply Kd.R_drew)); exact HO_3.out)); (case aS => exact (below_size (by repeat (first | (with_reducible first | exact HB.out | apply below_alloc | apply pw_below_drewN | apply below_drew1 | refine below_set ?_ GE132.out) | exact HB.out)))); (case aL => have := LMc19.out; omega); intro v140 w23 ho hb hg hat; rw [← Ny139.out] at ho; have n0_ := Aside0.mk (blk_grown (g := gb132) (o := .cells #[.string a0_0, .slice (some ad133) l0_1.length c0_1] 31 (0, 0)) (by (with_reducible repeat (first | refine blk_drewN ?_ _ | refine blk_drew ?_ | refine blk_alloc ?_ _)); exact BK132.out) hg (Kd.R_ne HO_3.out BK132.out (by decide))); have n1_ := Aside0.mk (hb); have n2_ := Aside0.mk (ho); clear BK132; clear HB; clear HO_3; have BK132 := n0_; have HB := n1_; have HO141 := n2_; clear n0_ n1_ n2_; clear ho hb hg hat))
          go_roundg k1
          case measure => have := HK1.out; omega
          case rel => exact ⟨(y139), (wrap64 (x4_1 + 1)), (by first | rfl | (simp; done) | (simp [*]; done)), H', ⟨by have := HK1.out; omega⟩, ⟨by (with_reducible repeat (first | apply Kd.R_alloc | apply Kd.R_drewN | apply Kd.R_drew)); exact HO141.out⟩, ⟨by (with_reducible repeat (first | refine blk_drewN ?_ _ | refine blk_drew ?_ | refine blk_alloc ?_ _)); exact BK132.out⟩, ⟨by repeat (first | (with_reducible first | exact HB.out | apply below_alloc | apply pw_below_drewN | apply below_drew1 | refine below_set ?_ GE132.out) | exact HB.out)⟩⟩
         ·rw [if_neg c19] at H
          exact absurd H (by simp)
       ·rw [if_neg c14] at H
        exact absurd H (by simp)
      ·rw [if_neg c13] at H
       exact absurd H (by simp)
    ·rw [if_neg c4] at H
     exact absurd H (by simp)
   ·rw [if_neg c3] at H
    have c3b0 : decide (x4_1 < (l0_1.length : Int)) = false := decide_eq_false c3
    clear c3
    obtain rfl := Option.some.inj H
    have hcz24_0 : wr.cell? ⟨gb132, 0, none⟩ = some (.string a0_0) := (blk_cell BK132.out 0).trans rfl
    have hcz24_1 : wr.cell? ⟨gb132, 1, none⟩ = some (.slice A0_1 l0_1.length c0_1) := (blk_cell BK132.out 1).trans rfl
    have hfz24_0 := blk_frozen BK132.out 0
    have hfz24_1 := blk_frozen BK132.out 1
    go_wp2
    go_ret
    exact ⟨_, by first | rfl | (simp [errW_none, errW_some] <;> rfl) | (simp [*, errW_none, errW_some] <;> rfl), by (with_reducible repeat (first | apply Kd.R_alloc | apply Kd.R_drewN | apply Kd.R_drew)); exact HO_3.out, by repeat (first | (with_reducible first | exact HB.out | apply below_alloc | apply pw_below_drewN | apply below_drew1 | refine below_set ?_ GE132.out) | exact HB.out)⟩
end Go.Proofs.YtjmpckommjlnlaaGreat.PZm
namespace Go.Proofs.YtjmpckommjlnlaaGreat.Rrs
open Go.RowKit Go.Proofs.YtjmpckommjlnlaaGreatW.PrintWords Go.Proofs.YtjmpckommjlnlaaGreatW.PrintLast Go.Proofs.YtjmpckommjlnlaaGreatW.PrintMore Go.Proofs.YtjmpckommjlnlaaGreat.Given Go.Proofs.YtjmpckommjlnlaaGreat.PRd Go.Proofs.YtjmpckommjlnlaaGreat.PRr Go.Proofs.YtjmpckommjlnlaaGreat.PZm Go.Proofs.YtjmpckommjlnlaaGreat.Oct Go.Proofs.YtjmpckommjlnlaaGreat.Name Go.Proofs.YtjmpckommjlnlaaGreat.NameFacts Go.Proofs.YtjmpckommjlnlaaGreat.RdataFacts Go.Proofs.YtjmpckommjlnlaaGreat.SetLaw
set_option linter.unusedVariables false
set_option linter.unusedSimpArgs false
theorem within_parts {a : ByteArray} {x : RR} (h : withinB a x = true) : x.f2 = 1 ∧ dataB x.f1 = true ∧ underN x.f0 a = true := by
  unfold withinB at h
  simp only [Bool.and_eq_true, decide_eq_true_eq] at h
  exact ⟨h.1, h.2.1, h.2.2⟩
theorem right_data {x : RR} (h : rightRR x = true) (h2 : x.f2 = 1) : rightD x.f1 x.f4 = true := by
  unfold rightRR at h
  simp only [Bool.and_eq_true, decide_eq_true_eq, Bool.or_eq_true, Bool.not_eq_true'] at h
  rcases h.2.2.2.2.2.2.2.2 with e | e
  · unfold typedB at e; rw [if_pos h2] at e; cases e
  · exact e
theorem ZoneOf.within {a : ByteArray} {s : List RR} (h : ZoneOf a s) {x : RR} (hx : x ∈ s) : withinB a x = true := by
  have := h.zone
  unfold isZoneB at this
  rw [Bool.and_eq_true, List.all_eq_true] at this
  have := this.1 x hx
  unfold refOne at this
  rw [Bool.and_eq_true] at this
  exact this.1
theorem ZoneOf.soa {a : ByteArray} {s : List RR} (h : ZoneOf a s) : ∃ (j : Nat) (hj : j < s.length), soaI s = (j : Int) ∧ typedL s 6 = [s[j]] ∧ s[j].f1 = 6 ∧ s[j].f2 = 1 ∧ rightD 6 s[j].f4 = true := by
  have hz := h.zone
  unfold isZoneB refEnd at hz
  simp only [Bool.and_eq_true, beq_iff_eq] at hz
  obtain ⟨y, ey, hy, hy6⟩ := one_six hz.2.1
  obtain ⟨j, hj, e1, e2⟩ := idx_mem hy
  have h0 : rdR (typedL s 6) 0 = y := by rw [ey]; rfl
  refine ⟨j, hj, by unfold soaI; rw [h0]; exact e1, by rw [e2]; exact ey, by rw [e2]; exact hy6, ?_, ?_⟩
  · rw [e2]; exact (within_parts (h.within hy)).1
  · rw [e2, ← hy6]; exact right_data (h.right y hy) (within_parts (h.within hy)).1
def soaV (y : RR) : ByteArray × Int × Int × Int × ByteArray × ByteArray × ByteArray × Int × Int × Int × Int × Int := (y.f0, y.f1, y.f2, y.f3, y.f4, soaM y.f4, soaR y.f4, soaN y.f4 0, soaN y.f4 1, soaN y.f4 2, soaN y.f4 3, soaN y.f4 4)
theorem psoa_at (a : ByteArray) (s : List RR) (j : Nat) (hj : j < s.length) (hr : rightD 6 s[j].f4 = true) : zone_Zone_Soa.f a s (j : Int) = some (soaV s[j]) := by
  have hrd : rdR s (j : Int) = s[j] := rdR_get s j hj
  have hb := (right6 hr).1
  unfold zone_Zone_Soa.f
  rw [if_pos (by omega), if_pos (by omega)]
  show ((rdata_Soa.f (rdR s (j : Int)).f4).bind fun bt => some ((rdR s (j : Int)).f0, (rdR s (j : Int)).f1, (rdR s (j : Int)).f2, (rdR s (j : Int)).f3, (rdR s (j : Int)).f4, bt.1, bt.2.1, bt.2.2.1, bt.2.2.2.1, bt.2.2.2.2.1, bt.2.2.2.2.2.1, bt.2.2.2.2.2.2.1)) = _
  rw [hrd, soa_yes hr]
  rfl
theorem ev_rsoa (a : ByteArray) (s : List RR) (y : RR) (hn : s.length ≤ 1000000) (hy : typedL s 6 = [y]) (hr : rightD 6 y.f4 = true) : Ev (fun k => beadrollref14_Zone_Soa.f k a s) (soaV y) := by
  unfold beadrollref14_Zone_Soa.f
  refine Ev.bind (ev_rtyped s 6 hn) ?_
  rw [hy]
  have hp : (0 : Int) < (([y] : List RR).length : Int) := by simp
  simp only [if_pos hp]
  refine Ev.bind (g := fun k => beadrollref10_Soa.f k y.f4) ⟨FU + 2000, fun k hk => rsoa_yes hr k hk⟩ ?_
  exact Ev.now _
open Go.Lib in
theorem compact_last (d : Array (List UInt8)) : ∀ m, m < d.size → compactUpTo d (m + 1) ≠ [] ∧ (compactUpTo d (m + 1)).getLast? = some d[m]! := by
  intro m
  induction m with
  | zero =>
    intro h
    have hk : keeps d 0 = true := by unfold keeps; simp
    rw [compactUpTo_succ, if_pos hk]
    simp
  | succ m ih =>
    intro h
    have := ih (by omega)
    rw [compactUpTo_succ]
    cases hk : keeps d (m + 1)
    · have e : d[m + 1]! = d[m]! := by
        unfold keeps at hk
        simp only [decide_eq_false_iff_not, not_or, Decidable.not_not] at hk
        exact hk.2
      rw [if_neg (by decide), List.append_nil, e]
      exact this
    · rw [if_pos rfl]
      exact ⟨by simp, by simp⟩
open Go.Lib in
theorem rnames_loop (a : ByteArray) (s : List RR) (hn : s.length ≤ 1000000) (d : Array (List UInt8)) (hd : d = ((s.map fun x => foldN x.f0).map (·.data.toList)).toArray) :
    ∀ (e i : Nat), s.length ≤ i + e → i ≤ s.length → Ev (fun k => beadrollref14_Zone_Names.l0 k ((compactUpTo d i).map arr) (i : Int) a s) ((compactUpTo d s.length).map arr) := by
  have hsz : d.size = s.length := by rw [hd]; simp
  have hend : ∀ i : Nat, i = s.length → Ev (fun k => beadrollref14_Zone_Names.l0 k ((compactUpTo d i).map arr) (i : Int) a s) ((compactUpTo d s.length).map arr) := by
    intro i hi
    refine Ev.step (f := fun _ => some ((compactUpTo d i).map arr)) (fun k => by rw [beadrollref14_Zone_Names.l0]; rw [if_neg (by omega)]) ?_
    rw [hi]
    exact Ev.now _
  intro e
  induction e with
  | zero => exact fun i h1 h2 => hend i (by omega)
  | succ e ih =>
    intro i h1 h2
    by_cases hi : i < s.length
    · have e1 : wrap64 ((i : Int) + 1) = ((i + 1 : Nat) : Int) := by unfold wrap64; omega
      have hr := rdR_get s i hi
      have hdi : d[i]! = (foldN s[i].f0).data.toList := by
        rw [getElem!_pos d i (by omega)]
        subst hd
        simp
      have hle : (compactUpTo d i).length ≤ i := by
        unfold compactUpTo
        rw [List.length_map]
        exact Nat.le_trans (List.length_filter_le _ _) (by simp)
      have hnext := ih (i + 1) (by omega) (by omega)
      have hstep : ∀ k, 700 ≤ k → beadrollref14_Zone_Names.l0 (k + 1) ((compactUpTo d i).map arr) (i : Int) a s = beadrollref14_Zone_Names.l0 k ((compactUpTo d (i + 1)).map arr) ((i + 1 : Nat) : Int) a s := by
        intro k hk
        have hrd : rd_T35 s (i : Int) = s[i] := hr
        rw [beadrollref14_Zone_Names.l0, e1, if_pos (by omega), if_pos (by omega), hrd, rfold_f _ k hk, Option.bind_some]
        have hlen : ((compactUpTo d i).map arr).length = (compactUpTo d i).length := List.length_map ..
        rw [compactUpTo_succ, List.map_append]
        have harr : arr d[i]! = foldN s[i].f0 := by rw [hdi, arr_of]
        rcases Nat.eq_zero_or_pos i with h0 | hp
        · have hk0 : keeps d i = true := by unfold keeps; rw [h0]; simp
          have hl0 : (compactUpTo d i).length = 0 := by omega
          rw [if_pos (by omega), if_pos (by omega), if_pos hk0, List.map_cons, List.map_nil, harr]
        · have hlast := compact_last d (i - 1) (by omega)
          rw [show i - 1 + 1 = i by omega] at hlast
          have hpos : 0 < (compactUpTo d i).length := List.length_pos_iff.mpr hlast.1
          have e2 : wrap64 ((((compactUpTo d i).map arr).length : Int) - 1) = (((compactUpTo d i).length - 1 : Nat) : Int) := by unfold wrap64; rw [hlen]; omega
          have hlz : rdOf ByteArray.empty ((compactUpTo d i).map arr) (((compactUpTo d i).length - 1 : Nat) : Int) = arr d[i - 1]! := by
            unfold rdOf
            rw [Int.toNat_natCast, List.getD_eq_getElem?_getD, List.getElem?_map, ← List.getLast?_eq_getElem?, hlast.2]
            rfl
          rw [if_neg (by omega), e2, if_pos (by omega), if_pos (by omega), hlz]
          by_cases he : d[i]! = d[i - 1]!
          · have hk0 : keeps d i = false := by unfold keeps; exact decide_eq_false (fun h => h.elim (fun h => by omega) (fun h => h he))
            rw [if_pos (by rw [← he, harr]), hk0, if_neg (by decide), List.map_nil, List.append_nil]
          · have hk0 : keeps d i = true := by unfold keeps; rw [decide_eq_true (.inr he)]
            rw [if_neg (fun h => he (by rw [← harr] at h; have := toList_inj.mp h; exact (arr_inj this).symm)), if_pos (by omega), if_pos hk0, List.map_cons, List.map_nil, harr]
      obtain ⟨K, hK⟩ := hnext
      refine ⟨max (K + 1) 702, fun k hk => ?_⟩
      obtain ⟨k, rfl⟩ : ∃ j, k = j + 1 := ⟨k - 1, by omega⟩
      show beadrollref14_Zone_Names.l0 (k + 1) _ _ _ _ = _
      rw [hstep k (by omega)]
      exact hK k (by omega)
    · exact hend i (by omega)
theorem ev_rnames (a : ByteArray) (s : List RR) (hn : s.length ≤ 1000000) : Ev (fun k => beadrollref14_Zone_Names.f k a s) (namesL s) := by
  have := rnames_loop a s hn _ rfl s.length 0 (by omega) (Nat.zero_le _)
  unfold namesL Go.Lib.compact
  rw [List.length_map, List.length_map]
  exact this
theorem pnames_f (a : ByteArray) (s : List RR) (z : Int) (hn : s.length ≤ 1000000) : zone_Zone_Names.f a s z = some (namesL s) := by
  unfold zone_Zone_Names.f
  rw [if_pos hn]
theorem texts_loop (l m : List ByteArray) (hlm : l.length = m.length) (hn : l.length ≤ 9223372036854775807) : ∀ (d i : Nat), l.length ≤ i + d → i ≤ l.length → ∃ b, Ev (fun k => beadrollref01_Texts.l0 k l m (i : Int)) b ∧ (b = true ↔ l.drop i = m.drop i) := by
  intro d
  induction d with
  | zero =>
    intro i hd hi0
    refine ⟨true, Ev.step (f := fun _ => some true) (fun k => by rw [beadrollref01_Texts.l0]; rw [if_neg (by omega)]) (Ev.now _), ?_⟩
    rw [List.drop_of_length_le (by omega), List.drop_of_length_le (by omega)]
    simp
  | succ d ih =>
    intro i hd hi0
    by_cases hi : i < l.length
    · have e1 : wrap64 ((i : Int) + 1) = ((i + 1 : Nat) : Int) := by unfold wrap64; omega
      have r1 : rdOf ByteArray.empty l (i : Int) = l[i] := rdo_at l i hi
      have r2 : rdOf ByteArray.empty m (i : Int) = m[i]'(by omega) := rdo_at m i (by omega)
      obtain ⟨b, hb, hb2⟩ := ih (i + 1) (by omega) (by omega)
      by_cases he : l[i] = m[i]'(by omega)
      · refine ⟨b, Ev.step (f := fun k => beadrollref01_Texts.l0 k l m ((i + 1 : Nat) : Int)) (fun k => ?_) hb, ?_⟩
        · rw [beadrollref01_Texts.l0, e1, r1, r2, he]
          simp only [show ((i : Int) < (l.length : Int)) = True from eq_true (by omega), show ((i : Int) < (m.length : Int)) = True from eq_true (by omega), show (0 ≤ (i : Int)) = True from eq_true (by omega), if_true]
          try simp
        · rw [hb2, List.drop_eq_getElem_cons hi, List.drop_eq_getElem_cons (show i < m.length by omega), he, List.cons.injEq]
          exact ⟨fun h => ⟨rfl, h⟩, fun h => h.2⟩
      · refine ⟨false, Ev.step (f := fun _ => some false) (fun k => ?_) (Ev.now _), ?_⟩
        · have hne : ¬ l[i].toList = (m[i]'(by omega)).toList := fun h => he (toList_inj.mp h)
          rw [beadrollref01_Texts.l0, r1, r2]
          simp only [show ((i : Int) < (l.length : Int)) = True from eq_true (by omega), show ((i : Int) < (m.length : Int)) = True from eq_true (by omega), show (0 ≤ (i : Int)) = True from eq_true (by omega), if_true, hne, if_false]
          try simp
        · rw [List.drop_eq_getElem_cons hi, List.drop_eq_getElem_cons (show i < m.length by omega), List.cons.injEq]
          exact ⟨(fun h => by cases h), fun h => absurd h.1 he⟩
    · refine ⟨true, Ev.step (f := fun _ => some true) (fun k => by rw [beadrollref01_Texts.l0]; rw [if_neg (by omega)]) (Ev.now _), ?_⟩
      rw [List.drop_of_length_le (by omega), List.drop_of_length_le (by omega)]
      simp
theorem ev_texts (l m : List ByteArray) (hn : l.length ≤ 9223372036854775807) : Ev (fun k => beadrollref01_Texts.f k l m) (decide (l = m)) := by
  unfold beadrollref01_Texts.f
  by_cases h : l.length = m.length
  · obtain ⟨b, hb, hb2⟩ := texts_loop l m h hn l.length 0 (by omega) (Nat.zero_le _)
    rw [List.drop_zero, List.drop_zero] at hb2
    have : decide (l = m) = b := by
      rw [Bool.eq_iff_iff, decide_eq_true_eq, hb2]
    rw [this]
    simp only [show ((l.length : Int) = (m.length : Int)) = True from eq_true (by omega), if_true]
    exact hb
  · have : decide (l = m) = false := decide_eq_false fun e => h (congrArg List.length e)
    rw [this]
    simp only [show ((l.length : Int) = (m.length : Int)) = False from eq_false (by omega), if_false]
    exact Ev.now _
end Go.Proofs.YtjmpckommjlnlaaGreat.Rrs
namespace Go.Proofs.YtjmpckommjlnlaaGreat.PZm
open Go.RowKit Go.Proofs.YtjmpckommjlnlaaGreatW.PrintWords Go.Proofs.YtjmpckommjlnlaaGreatW.PrintLast Go.Proofs.YtjmpckommjlnlaaGreatW.PrintMore Go.Proofs.YtjmpckommjlnlaaGreat.Given Go.Proofs.YtjmpckommjlnlaaGreat.PRd Go.Proofs.YtjmpckommjlnlaaGreat.PRr Go.Proofs.YtjmpckommjlnlaaGreat.PZo Go.Proofs.YtjmpckommjlnlaaGreat.PZf Go.Proofs.YtjmpckommjlnlaaGreat.PZe Go.Proofs.YtjmpckommjlnlaaGreat.PZh
attribute [local go_sem] max2_int min2_int max_two min_two max_three min_three max_four min_four   -- for this text's walks alone
set_option linter.unusedVariables false
set_option linter.unusedSimpArgs false
theorem eqA35 (d : Nat) (w : World) (x0 y0 : ByteArray) (x1 y1 : Int) (x2 y2 : Int) (x3 y3 : Int) (x4 y4 : ByteArray) :
  (Op.equalIn (d + 2) 35 (.agg #[.string x0, .int .i64 x1, .int .i64 x2, .int .i64 x3, .string x4]) (.agg #[.string y0, .int .i64 y1, .int .i64 y2, .int .i64 y3, .string y4])).run Tryz.prog w = .ok (x0.toList == y0.toList && (x1 == y1 && (x2 == y2 && (x3 == y3 && (x4.toList == y4.toList))))) w := by
 refine eqA_of Tryz.underlying35 (by kernel_rfl) ?_
 refine eqf_cons (by rfl) (by go_simp; rfl) (by go_simp; rfl) (by go_simp) ?_
 refine eqf_cons (by rfl) (by go_simp; rfl) (by go_simp; rfl) (by go_simp) ?_
 refine eqf_cons (by rfl) (by go_simp; rfl) (by go_simp; rfl) (by go_simp) ?_
 refine eqf_cons (by rfl) (by go_simp; rfl) (by go_simp; rfl) (by go_simp) ?_
 exact eqf_last (by rfl) (by go_simp; rfl) (by go_simp; rfl) (by go_simp)
end Go.Proofs.YtjmpckommjlnlaaGreat.PZm
namespace Go.Proofs.YtjmpckommjlnlaaGreat.PZm
open Go.RowKit Go.Proofs.YtjmpckommjlnlaaGreatW.PrintWords Go.Proofs.YtjmpckommjlnlaaGreatW.PrintLast Go.Proofs.YtjmpckommjlnlaaGreatW.PrintMore Go.Proofs.YtjmpckommjlnlaaGreat.Given Go.Proofs.YtjmpckommjlnlaaGreat.PRd Go.Proofs.YtjmpckommjlnlaaGreat.PRr Go.Proofs.YtjmpckommjlnlaaGreat.PZo Go.Proofs.YtjmpckommjlnlaaGreat.PZf Go.Proofs.YtjmpckommjlnlaaGreat.PZe Go.Proofs.YtjmpckommjlnlaaGreat.PZh
attribute [local go_sem] max2_int min2_int max_two min_two max_three min_three max_four min_four   -- for this text's walks alone
set_option linter.unusedVariables false
set_option linter.unusedSimpArgs false
theorem eqA38 (d : Nat) (w : World) (x0 y0 : ByteArray) (x1 y1 : ByteArray) (x2 y2 : Int) (x3 y3 : Int) (x4 y4 : Int) (x5 y5 : Int) (x6 y6 : Int) :
  (Op.equalIn (d + 2) 38 (.agg #[.string x0, .string x1, .int .u32 x2, .int .u32 x3, .int .u32 x4, .int .u32 x5, .int .u32 x6]) (.agg #[.string y0, .string y1, .int .u32 y2, .int .u32 y3, .int .u32 y4, .int .u32 y5, .int .u32 y6])).run Tryz.prog w = .ok (x0.toList == y0.toList && (x1.toList == y1.toList && (x2 == y2 && (x3 == y3 && (x4 == y4 && (x5 == y5 && (x6 == y6))))))) w := by
 refine eqA_of Tryz.underlying38 (by kernel_rfl) ?_
 refine eqf_cons (by rfl) (by go_simp; rfl) (by go_simp; rfl) (by go_simp) ?_
 refine eqf_cons (by rfl) (by go_simp; rfl) (by go_simp; rfl) (by go_simp) ?_
 refine eqf_cons (by rfl) (by go_simp; rfl) (by go_simp; rfl) (by go_simp) ?_
 refine eqf_cons (by rfl) (by go_simp; rfl) (by go_simp; rfl) (by go_simp) ?_
 refine eqf_cons (by rfl) (by go_simp; rfl) (by go_simp; rfl) (by go_simp) ?_
 refine eqf_cons (by rfl) (by go_simp; rfl) (by go_simp; rfl) (by go_simp) ?_
 exact eqf_last (by rfl) (by go_simp; rfl) (by go_simp; rfl) (by go_simp)
end Go.Proofs.YtjmpckommjlnlaaGreat.PZm
