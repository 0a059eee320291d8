/- The pure statement of the law NameHolds. -/
import Derived.Test.YthhbddmokgbdkaaNameFacts3
namespace Go.Proofs.Ythhbddmokgbdkaa.Pure
open Go.RowKit Go.Proofs.Ythhbddmokgbdkaa.PNam Go.Proofs.YthhbddmokgbdkaaW.PrintWords Go.Proofs.YthhbddmokgbdkaaW.PrintLast Go.Proofs.YthhbddmokgbdkaaW.PrintMore Go.Proofs.Ythhbddmokgbdkaa.Given Go.Proofs.Ythhbddmokgbdkaa.Oct Go.Proofs.Ythhbddmokgbdkaa.Name Go.Proofs.Ythhbddmokgbdkaa.NameFacts Go.Proofs.Ythhbddmokgbdkaa.Cmp
set_option linter.unusedVariables false
set_option linter.unusedSimpArgs false

/-! ### the reference's folding -/
theorem lower_at (s : ByteArray) (hs : s.size ≤ 1000000) : ∀ (d i k : Nat) (acc : List UInt8), i + d = s.size → d < k → acc.length + d ≤ 1000000 →
    beadrollref07_lower.l0 k s (bnums acc) (i : Int) = some (arr (acc ++ (s.data.toList.drop i).map low)) := by
  intro d
  induction d with
  | zero =>
    intro i k acc hi hk ha
    obtain ⟨k, rfl⟩ : ∃ j, k = j + 1 := ⟨k - 1, by omega⟩
    rw [beadrollref07_lower.l0, if_neg (by omega), List.drop_of_length_le (by rw [size_list]; omega), str_bnums, List.map_nil, List.append_nil]
  | succ d ih =>
    intro i k acc hi hk ha
    obtain ⟨k, rfl⟩ : ∃ j, k = j + 1 := ⟨k - 1, by omega⟩
    have hlt : i < s.size := by omega
    rw [beadrollref07_lower.l0, if_pos (by omega), if_pos (by omega), bt_list s i hlt, List.drop_eq_getElem_cons (by rw [size_list]; exact hlt), List.map_cons]
    generalize s.data.toList[i]'(by rw [size_list]; exact hlt) = c
    have hc := UInt8.toNat_lt c
    have step : ∀ x : UInt8, x = low c → ([(x.toNat : Int)] : List Int) = bnums [low c] := by intro x h; rw [h]; rfl
    have fin := ih (i + 1) k (acc ++ [low c]) (by omega) (by omega) (by simp; omega)
    rw [List.append_assoc, List.singleton_append] at fin
    have hlen : (bnums acc).length < 140737488355328 := by rw [bnums_len]; omega
    by_cases h1 : 65 ≤ c.toNat
    · by_cases h2 : c.toNat ≤ 90
      · have e : (low c).toNat = c.toNat + 32 := by
          have : low c = UInt8.ofNat (c.toNat + 32) := by unfold low; rw [if_pos ⟨h1, h2⟩]
          rw [this, UInt8.toNat_ofNat']; omega
        have e2 : ([((c.toNat : Int) + 32) % 256] : List Int) = bnums [low c] := by
          show _ = [((low c).toNat : Int)]
          rw [e]; congr 1; omega
        rw [if_pos (by omega), if_pos (by omega), if_pos hlen, e2, ← bnums_app, w64_id (by omega) (by omega)]
        exact fin
      · have e : low c = c := by unfold low; rw [if_neg (by omega)]
        rw [if_pos (by omega), if_neg (by omega), if_pos hlen, step c e.symm, ← bnums_app, w64_id (by omega) (by omega)]
        exact fin
    · have e : low c = c := by unfold low; rw [if_neg (by omega)]
      rw [if_neg (by omega), if_pos hlen, step c e.symm, ← bnums_app, w64_id (by omega) (by omega)]
      exact fin
theorem lower_f (s : ByteArray) (k : Nat) (hs : s.size ≤ 1000000) (hk : s.size < k) : beadrollref07_lower.f k s = some (lowS s) := by
  unfold beadrollref07_lower.f
  exact lower_at s hs s.size 0 k [] (by omega) hk (by simp; omega)
theorem piece_low (s : ByteArray) (hs : s.size ≤ 63) : strOfNums ([(s.size : Int) % 256] : List Int) ++ lowS s = pieceB 1 (lowS s) := by
  have e : ([(s.size : Int) % 256] : List Int) = bnums (beB 1 (lowS s).size) := by
    rw [lowS_size, beB, beB, List.nil_append]
    simp only [bnums, List.map_cons, List.map_nil, byte_mod]
    congr 1
  rw [e, str_bnums]; rfl
theorem rfold_at (l : List ByteArray) (hl : l.length ≤ 1000) (hs : ∀ s ∈ l, s.size ≤ 63) : ∀ (d i k : Nat), i + d = l.length → d + 100 ≤ k →
    beadrollref07_Fold.l0 k l (catB ((l.map lowS).take i)) (i : Int) = some (nameB (l.map lowS)) := by
  have hsz : ∀ i, (catB ((l.map lowS).take i)).size ≤ 64 * i := by
    intro i
    have h := cat_size ((l.map lowS).take i) (by
      intro s h
      obtain ⟨t, ht, rfl⟩ := List.mem_map.mp (List.mem_of_mem_take h)
      rw [lowS_size]; exact hs t ht)
    rw [List.length_take] at h
    omega
  intro d
  induction d with
  | zero =>
    intro i k hi hk
    obtain ⟨k, rfl⟩ : ∃ j, k = j + 1 := ⟨k - 1, by omega⟩
    have := hsz i
    rw [beadrollref07_Fold.l0, if_neg (by omega), if_pos (by omega), List.take_of_length_le (by rw [List.length_map]; omega), nameB_cat]
  | succ d ih =>
    intro i k hi hk
    obtain ⟨k, rfl⟩ : ∃ j, k = j + 1 := ⟨k - 1, by omega⟩
    have hil : i < l.length := by omega
    have h63 := hs _ (List.getElem_mem hil)
    have h1 := hsz i
    have hp := piece_low l[i] h63
    have hp2 : (strOfNums ([(l[i].size : Int) % 256] : List Int)).size + (lowS l[i]).size = (pieceB 1 (lowS l[i])).size := by rw [← hp, ByteArray.size_append]
    have hps := piece_size1 (lowS l[i])
    rw [lowS_size] at hps
    rw [beadrollref07_Fold.l0, if_pos (by omega), if_pos (by omega), rdo_at l i hil, Option.bind_some, lower_f _ k (by omega) (by omega), Option.bind_some, hp2, hp, if_pos (by omega), if_pos (by omega), w64_id (by omega) (by omega)]
    have h2 := ih (i + 1) k (by omega) (by omega)
    rw [cat_take (l.map lowS) i (by rw [List.length_map]; exact hil), List.getElem_map] at h2
    exact h2
theorem rfold_yes (l : List ByteArray) (hg : good l) (sl : (nameB l).size ≤ 255) (k : Nat) (hk : 700 ≤ k) : beadrollref07_Fold.f k (nameB l) = some (nameB (l.map lowS)) := by
  have ll := name_len l hg
  unfold beadrollref07_Fold.f
  rw [rlabels_yes l k hg sl (by omega), Option.bind_some, if_pos rfl]
  exact rfold_at l (by omega) (fun s h => (hg s h).2) l.length 0 k (by omega) (by omega)
theorem rfold_no (n : ByteArray) (h : rightB n = false) (k : Nat) (hk : 700 ≤ k) : beadrollref07_Fold.f k n = some ⟨#[]⟩ := by
  unfold beadrollref07_Fold.f
  obtain ⟨l, e⟩ := rlabels_no n k h (by omega)
  rw [e, Option.bind_some, if_neg (by decide : ¬ false = true)]
theorem right_nil : rightB ⟨#[]⟩ = false := by kernel_rfl

/-! ### alike -/
theorem ralike_yes (l m : List ByteArray) (hl : good l) (hm : good m) (sl : (nameB l).size ≤ 255) (sm : (nameB m).size ≤ 255) (k : Nat) (hk : 700 ≤ k) : beadrollref07_Alike.f k (nameB l) (nameB m) = some (decide (l.map lowS = m.map lowS)) := by
  unfold beadrollref07_Alike.f
  rw [rright_f _ k (by omega), right_name hl sl, Option.bind_some, if_pos rfl, rright_f _ k (by omega), right_name hm sm, Option.bind_some, if_pos rfl, rfold_yes l hl sl k hk, Option.bind_some, rfold_yes m hm sm k hk, Option.bind_some]
  congr 1
  by_cases h : l.map lowS = m.map lowS
  · rw [h]; simp
  · rw [decide_eq_false h, beq_eq_false_iff_ne]
    intro e
    exact h (name_inj (good_map hl) (good_map hm) (toList_inj.mp e))
theorem alike_no (a b : ByteArray) (h : rightB a = false ∨ rightB b = false) : name_Alike.f a b = some false := by
  unfold name_Alike.f
  rw [right_f, Option.bind_some]
  cases ha : rightB a with
  | false => rw [if_neg (by decide)]
  | true =>
    rw [if_pos rfl, right_f, Option.bind_some, if_neg (by rcases h with h | h <;> simp_all)]
theorem ralike_no (a b : ByteArray) (h : rightB a = false ∨ rightB b = false) (k : Nat) (hk : 700 ≤ k) : beadrollref07_Alike.f k a b = some false := by
  unfold beadrollref07_Alike.f
  rw [rright_f _ k (by omega), Option.bind_some]
  cases ha : rightB a with
  | false => rw [if_neg (by decide)]
  | true =>
    rw [if_pos rfl, rright_f _ k (by omega), Option.bind_some, if_neg (by rcases h with h | h <;> simp_all)]

/-! ### the order -/
theorem rd_rev (x : List ByteArray) (i : Nat) (h : i < x.length) (hx : x.length ≤ 1000) : rdOf ByteArray.empty x (wrap64 ((x.length : Int) - ((i + 1 : Nat) : Int))) = x.reverse[i]'(by rw [List.length_reverse]; exact h) := by
  rw [w64_id (by omega) (by omega), show (x.length : Int) - ((i + 1 : Nat) : Int) = ((x.length - 1 - i : Nat) : Int) from by omega, rdo_at x _ (by omega), List.getElem_reverse]
theorem rcmp_at (x y : List ByteArray) (hx : x.length ≤ 1000) (hy : y.length ≤ 1000) : ∀ (d i k : Nat), i + d = x.length → i ≤ y.length → 2 * d + 3 ≤ k →
    beadrollref07_Compare.l0 k x y ((i + 1 : Nat) : Int) = some (cmpL (x.reverse.drop i) (y.reverse.drop i)) := by
  intro d
  induction d with
  | zero =>
    intro i k hi hiy hk
    obtain ⟨k, rfl⟩ : ∃ j, k = j + 2 := ⟨k - 2, by omega⟩
    rw [beadrollref07_Compare.l0, if_neg (by omega), beadrollref07_Compare.j2, if_neg (by decide), List.drop_of_length_le (by rw [List.length_reverse]; omega : x.reverse.length ≤ i)]
    by_cases h : i = y.length
    · rw [if_neg (by omega), if_neg (by omega), List.drop_of_length_le (by rw [List.length_reverse]; omega)]; rfl
    · rw [if_pos (by omega), List.drop_eq_getElem_cons (by rw [List.length_reverse]; omega : i < y.reverse.length)]; rfl
  | succ d ih =>
    intro i k hi hiy hk
    obtain ⟨k, rfl⟩ : ∃ j, k = j + 2 := ⟨k - 2, by omega⟩
    have hix : i < x.length := by omega
    rw [beadrollref07_Compare.l0, if_pos (by omega), List.drop_eq_getElem_cons (by rw [List.length_reverse]; exact hix : i < x.reverse.length)]
    by_cases h : i < y.length
    · rw [decide_eq_true (by omega), beadrollref07_Compare.j2, if_pos rfl, if_pos (by rw [w64_id (by omega) (by omega)]; omega), if_pos (by rw [w64_id (by omega) (by omega)]; omega), if_pos (by rw [w64_id (by omega) (by omega)]; omega), if_pos (by rw [w64_id (by omega) (by omega)]; omega), rd_rev x i hix hx, rd_rev y i h hy, List.drop_eq_getElem_cons (by rw [List.length_reverse]; exact h : i < y.reverse.length), cmpL]
      generalize x.reverse[i]'(by rw [List.length_reverse]; exact hix) = a
      generalize y.reverse[i]'(by rw [List.length_reverse]; exact h) = b
      rcases cmp_cases a.toList b.toList with ⟨h1, e⟩ | ⟨h1, e⟩ | ⟨h1, e⟩
      · rw [if_pos h1, if_neg (by omega), e]
      · rw [h1, bl_irrefl, if_neg (by decide), if_neg (by decide), cmp_self, if_pos rfl, w64_id (by omega) (by omega)]
        exact ih (i + 1) k (by omega) (by omega) (by omega)
      · rw [bl_asymm _ _ h1, if_neg (by decide), if_pos h1, if_neg (by omega), e]
    · rw [decide_eq_false (by omega), beadrollref07_Compare.j2, if_neg (by decide), if_neg (by omega), if_pos (by omega), List.drop_of_length_le (by rw [List.length_reverse]; omega : y.reverse.length ≤ i)]; rfl
theorem rcompare_yes (l m : List ByteArray) (hl : good l) (hm : good m) (sl : (nameB l).size ≤ 255) (sm : (nameB m).size ≤ 255) (k : Nat) (hk : 1000 ≤ k) : beadrollref07_Compare.f k (nameB l) (nameB m) = some (cmpN l m) := by
  have nl := name_len l hl
  have nm := name_len m hm
  unfold beadrollref07_Compare.f
  rw [rfold_yes l hl sl k (by omega), Option.bind_some, rlabels_yes _ k (good_map hl) (by rw [size_map]; exact sl) (by omega), Option.bind_some, rfold_yes m hm sm k (by omega), Option.bind_some, rlabels_yes _ k (good_map hm) (by rw [size_map]; exact sm) (by omega), Option.bind_some, if_pos rfl]
  obtain ⟨k, rfl⟩ : ∃ j, k = j + 1 := ⟨k - 1, by omega⟩
  rw [beadrollref07_Compare.j0, if_neg (by show ¬ false = true; decide)]
  have h := rcmp_at (l.map lowS) (m.map lowS) (by rw [List.length_map]; omega) (by rw [List.length_map]; omega) (l.map lowS).length 0 k (by omega) (by omega) (by rw [List.length_map]; omega)
  exact h
theorem compare_no (a b : ByteArray) (h : rightB a = false ∨ rightB b = false) (k : Nat) (hk : 2 ≤ k) : name_Compare.f k a b = some 0 := by
  obtain ⟨k, rfl⟩ : ∃ j, k = j + 1 := ⟨k - 1, by omega⟩
  have one : ∀ n, ∃ f, name_Fold.f n = some f ∧ ∃ l e, name_Labels.f f = some (l, e) ∧ (rightB n = false → e = 2) := by
    intro n
    cases hn : rightB n with
    | false => exact ⟨_, fold_no_f n hn, _, _, labels_no_f _ right_nil, fun _ => rfl⟩
    | true =>
      obtain ⟨l, hg, rfl, hs⟩ := (right_iff n).mp hn
      exact ⟨_, fold_yes_f l hg hs, _, _, labels_yes_f _ (good_map hg) (by rw [size_map]; exact hs), fun h => absurd h (by decide)⟩
  obtain ⟨f, e1, l, e, e2, e3⟩ := one a
  obtain ⟨f', e1', l', e', e2', e3'⟩ := one b
  unfold name_Compare.f
  rw [e1, Option.bind_some, e2, Option.bind_some, e1', Option.bind_some, e2', Option.bind_some]
  show (if e = 0 then name_Compare.j0 (k + 1) l l' (e' != 0) else name_Compare.j0 (k + 1) l l' true) = _
  by_cases h0 : e = 0
  · have hb : rightB b = false := by
      rcases h with h | h
      · have := e3 h; omega
      · exact h
    rw [if_pos h0, e3' hb, name_Compare.j0, if_pos (by decide)]
  · rw [if_neg h0, name_Compare.j0, if_pos rfl]
theorem rfolded (n : ByteArray) (k : Nat) (hk : 700 ≤ k) : ∃ f, beadrollref07_Fold.f k n = some f ∧ ∃ l ok, beadrollref07_Labels.f k f = some (l, ok) ∧ (rightB n = false → ok = false) := by
  cases hn : rightB n with
  | false =>
    obtain ⟨l, e⟩ := rlabels_no ⟨#[]⟩ k right_nil (by omega)
    exact ⟨_, rfold_no n hn k hk, _, _, e, fun _ => rfl⟩
  | true =>
    obtain ⟨l, hg, rfl, hs⟩ := (right_iff n).mp hn
    exact ⟨_, rfold_yes l hg hs k hk, _, _, rlabels_yes _ k (good_map hg) (by rw [size_map]; exact hs) (by omega), fun h => absurd h (by decide)⟩
theorem rcompare_no (a b : ByteArray) (h : rightB a = false ∨ rightB b = false) (k : Nat) (hk : 1000 ≤ k) : beadrollref07_Compare.f k a b = some 0 := by
  obtain ⟨f, e1, l, ok, e2, e3⟩ := rfolded a k (by omega)
  obtain ⟨f', e1', l', ok', e2', e3'⟩ := rfolded b k (by omega)
  unfold beadrollref07_Compare.f
  rw [e1, Option.bind_some, e2, Option.bind_some, e1', Option.bind_some, e2', Option.bind_some]
  obtain ⟨k, rfl⟩ : ∃ j, k = j + 1 := ⟨k - 1, by omega⟩
  show (if ok = true then beadrollref07_Compare.j0 (k + 1) l l' (!ok') else beadrollref07_Compare.j0 (k + 1) l l' true) = _
  cases ok with
  | false => rw [if_neg (by decide), beadrollref07_Compare.j0, if_pos rfl]
  | true =>
    have hb : rightB b = false := by
      rcases h with h | h
      · exact absurd (e3 h) (by decide)
      · exact h
    rw [if_pos rfl, e3' hb, beadrollref07_Compare.j0, if_pos (by decide)]

/-! ### under -/
theorem under_suffix (m : List ByteArray) : ∀ l, underL m l = decide (m.map lowS <:+ l.map lowS)
  | [] => by
    rw [underL]; apply decide_eq_decide.2
    rw [List.map_nil, List.suffix_nil]; exact eq_comm
  | s :: t => by
    rw [underL, under_suffix m t, ← Bool.decide_or]
    apply decide_eq_decide.2
    rw [List.map_cons, List.suffix_cons_iff]
    exact or_congr eq_comm Iff.rfl
theorem rd_rev2 (x : List ByteArray) (i : Nat) (h : i < x.length) (hx : x.length ≤ 1000) : rdOf ByteArray.empty x (wrap64 ((wrap64 ((x.length : Int) - 1)) - (i : Int))) = x.reverse[i]'(by rw [List.length_reverse]; exact h) := by
  rw [w64_id (x := (x.length : Int) - 1) (by omega) (by omega), w64_id (by omega) (by omega), show (x.length : Int) - 1 - (i : Int) = ((x.length - 1 - i : Nat) : Int) from by omega, rdo_at x _ (by omega), List.getElem_reverse]
theorem runder_at (x y : List ByteArray) (hx : x.length ≤ 1000) (hxy : y.length ≤ x.length) : ∀ (d i k : Nat), i + d = y.length → d + 1 ≤ k →
    beadrollref07_Under.l0 k x y (i : Int) = some (decide (y.reverse.drop i <+: x.reverse.drop i)) := by
  intro d
  induction d with
  | zero =>
    intro i k hi hk
    obtain ⟨k, rfl⟩ : ∃ j, k = j + 1 := ⟨k - 1, by omega⟩
    rw [beadrollref07_Under.l0, if_neg (by omega), List.drop_of_length_le (by rw [List.length_reverse]; omega : y.reverse.length ≤ i), decide_eq_true (List.nil_prefix)]
  | succ d ih =>
    intro i k hi hk
    obtain ⟨k, rfl⟩ : ∃ j, k = j + 1 := ⟨k - 1, by omega⟩
    have hiy : i < y.length := by omega
    have hix : i < x.length := by omega
    have wx : wrap64 ((wrap64 ((x.length : Int) - 1)) - (i : Int)) = ((x.length - 1 - i : Nat) : Int) := by rw [w64_id (x := (x.length : Int) - 1) (by omega) (by omega), w64_id (by omega) (by omega)]; omega
    have wy : wrap64 ((wrap64 ((y.length : Int) - 1)) - (i : Int)) = ((y.length - 1 - i : Nat) : Int) := by rw [w64_id (x := (y.length : Int) - 1) (by omega) (by omega), w64_id (by omega) (by omega)]; omega
    rw [beadrollref07_Under.l0, if_pos (by omega), rd_rev2 x i hix hx, rd_rev2 y i hiy (by omega), wx, wy, if_pos (by omega), if_pos (by omega), if_pos (by omega), if_pos (by omega), List.drop_eq_getElem_cons (by rw [List.length_reverse]; exact hix : i < x.reverse.length), List.drop_eq_getElem_cons (by rw [List.length_reverse]; exact hiy : i < y.reverse.length)]
    generalize x.reverse[i]'(by rw [List.length_reverse]; exact hix) = a
    generalize y.reverse[i]'(by rw [List.length_reverse]; exact hiy) = b
    by_cases h : a = b
    · subst h
      rw [if_pos rfl, w64_id (by omega) (by omega), show (i : Int) + 1 = ((i + 1 : Nat) : Int) from by omega, ih (i + 1) k (by omega) (by omega)]
      congr 1
      apply decide_eq_decide.2
      rw [List.cons_prefix_cons]
      exact ⟨fun h => ⟨rfl, h⟩, fun h => h.2⟩
    · rw [if_neg (fun e => h (toList_inj.mp e)), decide_eq_false]
      rw [List.cons_prefix_cons]
      rintro ⟨e, _⟩
      exact h e.symm
theorem runder_yes (l m : List ByteArray) (hl : good l) (hm : good m) (sl : (nameB l).size ≤ 255) (sm : (nameB m).size ≤ 255) (k : Nat) (hk : 1000 ≤ k) : beadrollref07_Under.f k (nameB l) (nameB m) = some (underL m l) := by
  have nl := name_len l hl
  have nm := name_len m hm
  unfold beadrollref07_Under.f
  rw [rfold_yes l hl sl k (by omega), Option.bind_some, rlabels_yes _ k (good_map hl) (by rw [size_map]; exact sl) (by omega), Option.bind_some, rfold_yes m hm sm k (by omega), Option.bind_some, rlabels_yes _ k (good_map hm) (by rw [size_map]; exact sm) (by omega), Option.bind_some, if_pos rfl, if_pos rfl]
  obtain ⟨k, rfl⟩ : ∃ j, k = j + 1 := ⟨k - 1, by omega⟩
  rw [under_suffix]
  show beadrollref07_Under.j0 (k + 1) (l.map lowS) (m.map lowS) (decide (((l.map lowS).length : Int) < ((m.map lowS).length : Int))) = _
  by_cases h : (m.map lowS).length ≤ (l.map lowS).length
  · rw [decide_eq_false (by omega), beadrollref07_Under.j0, if_neg (by decide)]
    have := runder_at (l.map lowS) (m.map lowS) (by rw [List.length_map]; omega) h (m.map lowS).length 0 k (by omega) (by rw [List.length_map]; omega)
    refine this.trans ?_
    congr 1
    apply decide_eq_decide.2
    rw [List.drop_zero, List.drop_zero, List.reverse_prefix]
  · rw [decide_eq_true (by omega), beadrollref07_Under.j0, if_pos rfl]
    congr 1
    symm
    apply decide_eq_false
    intro hs
    exact h hs.length_le
theorem under_no (a b : ByteArray) (h : rightB a = false ∨ rightB b = false) (k : Nat) (hk : 2 ≤ k) : name_Under.f k a b = some false := by
  obtain ⟨k, rfl⟩ : ∃ j, k = j + 1 := ⟨k - 1, by omega⟩
  unfold name_Under.f
  rw [right_f, Option.bind_some]
  cases ha : rightB a with
  | false => rw [if_neg (by decide), name_Under.j0, if_pos rfl]
  | true =>
    have hb : rightB b = false := by
      rcases h with h | h
      · rw [ha] at h; exact absurd h (by decide)
      · exact h
    rw [if_pos rfl, right_f, Option.bind_some, hb, name_Under.j0, if_pos (by decide)]
theorem runder_no (a b : ByteArray) (h : rightB a = false ∨ rightB b = false) (k : Nat) (hk : 1000 ≤ k) : beadrollref07_Under.f k a b = some false := by
  obtain ⟨f, e1, l, ok, e2, e3⟩ := rfolded a k (by omega)
  obtain ⟨f', e1', l', ok', e2', e3'⟩ := rfolded b k (by omega)
  unfold beadrollref07_Under.f
  rw [e1, Option.bind_some, e2, Option.bind_some, e1', Option.bind_some, e2', Option.bind_some]
  obtain ⟨k, rfl⟩ : ∃ j, k = j + 1 := ⟨k - 1, by omega⟩
  show (if ok = true then (if ok' = true then beadrollref07_Under.j0 (k + 1) l l' _ else beadrollref07_Under.j0 (k + 1) l l' true) else beadrollref07_Under.j0 (k + 1) l l' true) = _
  cases ok with
  | false => rw [if_neg (by decide), beadrollref07_Under.j0, if_pos rfl]
  | true =>
    have hb : rightB b = false := by
      rcases h with h | h
      · exact absurd (e3 h) (by decide)
      · exact h
    rw [if_pos rfl, e3' hb, if_neg (by decide), beadrollref07_Under.j0, if_pos rfl]

theorem holds_off (a b : ByteArray) (k : Nat) : beadrolllaw07_NameHolds.j0 (k + 1) a b true = some true := by
  rw [beadrolllaw07_NameHolds.j0, if_pos rfl, awake07_f]; rfl
theorem holds_on (a b : ByteArray) (k : Nat) (hk : 1000 ≤ k) : beadrolllaw07_NameHolds.j0 (k + 1) a b false = some true := by
  rw [beadrolllaw07_NameHolds.j0, if_neg (by decide)]
  by_cases h : rightB a = false ∨ rightB b = false
  · rw [alike_no a b h, Option.bind_some, ralike_no a b h k (by omega), Option.bind_some, if_pos (by decide), compare_no a b h k (by omega), Option.bind_some, rcompare_no a b h k hk, Option.bind_some, if_pos rfl, under_no a b h k (by omega), Option.bind_some, runder_no a b h k hk]
    rfl
  · have ha : rightB a = true := by cases hq : rightB a with | true => rfl | false => exact absurd (.inl hq) h
    have hb : rightB b = true := by cases hq : rightB b with | true => rfl | false => exact absurd (.inr hq) h
    obtain ⟨l, hl, rfl, sl⟩ := (right_iff a).mp ha
    obtain ⟨m, hm, rfl, sm⟩ := (right_iff b).mp hb
    rw [alike_f l m hl hm sl sm, Option.bind_some, ralike_yes l m hl hm sl sm k (by omega), Option.bind_some, if_pos (by simp), compare_f l m hl hm sl sm k (by omega), Option.bind_some, rcompare_yes l m hl hm sl sm k hk, Option.bind_some, if_pos rfl, under_f l m hl hm sl sm k (by omega), Option.bind_some, runder_yes l m hl hm sl sm k hk]
    simp
theorem NameHolds : beadrolllaw07_NameHolds.Pure := by
  intro a b w0 w1
  refine ⟨2001, ?_⟩
  unfold beadrolllaw07_NameHolds.f
  rw [awake07_f, Option.bind_some, if_pos rfl]
  by_cases h : (a.size : Int) > 300
  · rw [if_pos h]; exact holds_off a b _
  · rw [if_neg h]
    by_cases h' : (b.size : Int) > 300
    · rw [decide_eq_true h']; exact holds_off a b _
    · rw [decide_eq_false h']; exact holds_on a b 2000 (by omega)
end Go.Proofs.Ythhbddmokgbdkaa.Pure
