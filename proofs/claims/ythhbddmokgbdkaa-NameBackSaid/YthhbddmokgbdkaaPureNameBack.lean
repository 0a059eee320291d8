/- The pure statement of the law NameBack. -/
import Derived.Test.YthhbddmokgbdkaaNameFacts3
namespace Go.Proofs.Ythhbddmokgbdkaa.Pure
open Go.RowKit Go.Proofs.Ythhbddmokgbdkaa.PNam Go.Proofs.YthhbddmokgbdkaaW.PrintWords Go.Proofs.YthhbddmokgbdkaaW.PrintLast Go.Proofs.YthhbddmokgbdkaaW.PrintMore Go.Proofs.Ythhbddmokgbdkaa.Given Go.Proofs.Ythhbddmokgbdkaa.Oct Go.Proofs.Ythhbddmokgbdkaa.Name Go.Proofs.Ythhbddmokgbdkaa.NameFacts
set_option linter.unusedVariables false
def up (c : UInt8) : UInt8 := if 97 ≤ c.toNat ∧ c.toNat ≤ 122 then UInt8.ofNat (c.toNat - 32) else c
def upS (s : ByteArray) : ByteArray := arr (s.data.toList.map up)
theorem low_up (c : UInt8) : low (up c) = low c := by
  by_cases h : 97 ≤ c.toNat ∧ c.toNat ≤ 122
  · have e : up c = UInt8.ofNat (c.toNat - 32) := by unfold up; rw [if_pos h]
    have e2 : (up c).toNat = c.toNat - 32 := by rw [e, UInt8.toNat_ofNat']; omega
    apply UInt8.toNat_inj.mp
    have l1 : low (up c) = UInt8.ofNat ((up c).toNat + 32) := by unfold low; rw [if_pos (by omega)]
    have l2 : low c = c := by unfold low; rw [if_neg (by omega)]
    rw [l1, l2, UInt8.toNat_ofNat']; omega
  · have e : up c = c := by unfold up; rw [if_neg h]
    rw [e]
theorem upS_size (s : ByteArray) : (upS s).size = s.size := by unfold upS; rw [arr_size, List.length_map, size_list]
theorem lowS_upS (s : ByteArray) : lowS (upS s) = lowS s := by
  apply list_inj
  rw [lowS_list, lowS_list, upS, arr_list, List.map_map]
  congr 1; funext c; exact low_up c
theorem upper_at (s : ByteArray) (hs : s.size ≤ 1000000) : ∀ (d i k : Nat) (acc : List UInt8), i + d = s.size → d < k → acc.length + d ≤ 1000000 →
    beadrolllaw07_upper.l0 k s (bnums acc) (i : Int) = some (arr (acc ++ (s.data.toList.drop i).map up)) := by
  intro d
  induction d with
  | zero =>
    intro i k acc hi hk ha
    obtain ⟨k, rfl⟩ : ∃ j, k = j + 1 := ⟨k - 1, by omega⟩
    rw [beadrolllaw07_upper.l0, if_neg (by omega), List.drop_of_length_le (by rw [size_list]; omega), str_bnums, List.map_nil, List.append_nil]
  | succ d ih =>
    intro i k acc hi hk ha
    obtain ⟨k, rfl⟩ : ∃ j, k = j + 1 := ⟨k - 1, by omega⟩
    have hlt : i < s.size := by omega
    rw [beadrolllaw07_upper.l0, if_pos (by omega), if_pos (by omega), bt_list s i hlt, List.drop_eq_getElem_cons (by rw [size_list]; exact hlt), List.map_cons]
    generalize s.data.toList[i]'(by rw [size_list]; exact hlt) = c
    have hc := UInt8.toNat_lt c
    have step : ∀ x : UInt8, x = up c → ([(x.toNat : Int)] : List Int) = bnums [up c] := by intro x h; rw [h]; rfl
    have fin := ih (i + 1) k (acc ++ [up c]) (by omega) (by omega) (by simp; omega)
    rw [List.append_assoc, List.singleton_append] at fin
    have hlen : (bnums acc).length < 140737488355328 := by rw [bnums_len]; omega
    by_cases h1 : 97 ≤ c.toNat
    · by_cases h2 : c.toNat ≤ 122
      · have e : (up c).toNat = c.toNat - 32 := by
          have : up c = UInt8.ofNat (c.toNat - 32) := by unfold up; rw [if_pos ⟨h1, h2⟩]
          rw [this, UInt8.toNat_ofNat']; omega
        have e2 : ([((c.toNat : Int) - 32) % 256] : List Int) = bnums [up c] := by
          show _ = [((up c).toNat : Int)]
          rw [e]; congr 1; omega
        rw [if_pos (by omega), if_pos (by omega), if_pos hlen, e2, ← bnums_app, w64_id (by omega) (by omega)]
        exact fin
      · have e : up c = c := by unfold up; rw [if_neg (by omega)]
        rw [if_pos (by omega), if_neg (by omega), if_pos hlen, step c e.symm, ← bnums_app, w64_id (by omega) (by omega)]
        exact fin
    · have e : up c = c := by unfold up; rw [if_neg (by omega)]
      rw [if_neg (by omega), if_pos hlen, step c e.symm, ← bnums_app, w64_id (by omega) (by omega)]
      exact fin
theorem upper_f (s : ByteArray) (k : Nat) (hs : s.size ≤ 1000000) (hk : s.size < k) : beadrolllaw07_upper.f k s = some (upS s) := by
  unfold beadrolllaw07_upper.f
  exact upper_at s hs s.size 0 k [] (by omega) hk (by simp; omega)

theorem same_size {l m : List ByteArray} (h : l.map lowS = m.map lowS) : (nameB l).size = (nameB m).size := by
  rw [← size_map l, h, size_map]
theorem back_end (l m : List ByteArray) (turn : List Bool) (hl : good l) (hm : good m) (sl : (nameB l).size ≤ 255) (h : m.map lowS = l.map lowS) (k : Nat) (hk : 1000 ≤ k) (i : Int) :
    beadrolllaw07_NameBack.j3 (k + 1) (nameB l) turn m i false = some true := by
  have sm : (nameB m).size ≤ 255 := by rw [same_size h]; exact sl
  have lm := name_len m hm
  have gx : good (l.map lowS) := good_map hl
  have sx : (nameB (l.map lowS)).size ≤ 255 := by rw [size_map]; exact sl
  rw [beadrolllaw07_NameBack.j3, if_neg (by decide), of_f m k (by omega) (by omega), of_good hm sm, Option.bind_some, fold_yes_f l hl sl, Option.bind_some, if_pos rfl, alike_f m l hm hl sm sl, decide_eq_true h, Option.bind_some, if_pos rfl, fold_yes_f m hm sm, Option.bind_some, h, if_pos rfl, fold_yes_f _ gx sx, map_map, Option.bind_some, if_pos rfl, alike_f _ l gx hl sx sl, map_map, decide_eq_true rfl, Option.bind_some, if_pos rfl, under_f l m hl hm sl sm k (by omega), under_alike h.symm, Option.bind_some, if_pos rfl,
    show (⟨#[0]⟩ : ByteArray) = nameB [] from rfl, under_f l [] hl (by simp [good]) sl (by decide) k (by omega), under_root]
  rfl
theorem good_set {m : List ByteArray} {i : Nat} {s : ByteArray} (hm : good m) (h : 1 ≤ s.size ∧ s.size ≤ 63) : good (m.set i s) := by
  intro x hx
  rcases List.mem_or_eq_of_mem_set hx with h1 | h1
  · exact hm x h1
  · rw [h1]; exact h
theorem back_at (l : List ByteArray) (turn : List Bool) (hl : good l) (sl : (nameB l).size ≤ 255) :
    ∀ (d i k : Nat) (m : List ByteArray), i + d = l.length → 2 * d + 1003 ≤ k → good m → m.map lowS = l.map lowS → beadrolllaw07_NameBack.l0 k (nameB l) turn m (i : Int) = some true := by
  have ll := name_len l hl
  intro d
  induction d with
  | zero =>
    intro i k m hi hk hm h
    obtain ⟨k, rfl⟩ : ∃ j, k = j + 2 := ⟨k - 2, by omega⟩
    have hlen : m.length = l.length := by have := congrArg List.length h; simpa using this
    rw [beadrolllaw07_NameBack.l0, if_neg (by omega)]
    exact back_end l m turn hl hm sl h k (by omega) _
  | succ d ih =>
    intro i k m hi hk hm h
    obtain ⟨k, rfl⟩ : ∃ j, k = j + 2 := ⟨k - 2, by omega⟩
    have hlen : m.length = l.length := by have := congrArg List.length h; simpa using this
    have him : i < m.length := by omega
    rw [beadrolllaw07_NameBack.l0, if_pos (by omega)]
    by_cases ht : i < turn.length
    · have hg := hm m[i] (List.getElem_mem him)
      rw [decide_eq_true (by omega), beadrolllaw07_NameBack.j3, if_pos rfl, if_pos (by omega), if_pos (by omega), w64_id (by omega) (by omega)]
      split
      · rw [if_pos (by omega), rdo_at m i him, upper_f _ k (by omega) (by omega), Option.bind_some, Int.toNat_natCast]
        refine ih (i + 1) k _ (by omega) (by omega) (good_set hm (by rw [upS_size]; exact hg)) ?_
        rw [List.map_set, lowS_upS, ← h]
        apply List.ext_getElem?
        intro p
        rw [List.getElem?_set]
        by_cases c : i = p
        · subst c
          rw [if_pos rfl, if_pos (by simp; exact him)]
          simp [List.getElem?_eq_getElem him]
        · rw [if_neg c]
      · exact ih (i + 1) k m (by omega) (by omega) hm h
    · rw [decide_eq_false (by omega)]
      exact back_end l m turn hl hm sl h k (by omega) _
theorem back_off (n : ByteArray) (turn : List Bool) (k : Nat) : beadrolllaw07_NameBack.j0 (k + 1) n turn true = some true := by
  rw [beadrolllaw07_NameBack.j0, if_pos rfl, awake07_f]; rfl
theorem NameBack (n : ByteArray) (turn : List Bool) (w0 : n.size ≤ 140737488351232) (hm : turn.length ≤ maxLen) : ∃ k, beadrolllaw07_NameBack.f k n turn = some true := by
  refine ⟨2001, ?_⟩
  unfold beadrolllaw07_NameBack.f
  rw [awake07_f, Option.bind_some, if_pos rfl, rright_f n 2001 (by omega), Option.bind_some]
  cases h : rightB n with
  | false => exact back_off n turn _
  | true =>
    obtain ⟨l, hl, rfl, sl⟩ := (right_iff n).mp h
    have ll := name_len l hl
    show beadrolllaw07_NameBack.j0 2001 (nameB l) turn false = _
    rw [beadrolllaw07_NameBack.j0, if_neg (by decide), labels_yes_f l hl sl, Option.bind_some, of_f l 2000 (by omega) (by omega), of_good hl sl, Option.bind_some, if_pos rfl, if_pos rfl]
    show beadrolllaw07_NameBack.j1 2000 (nameB l) turn l ((nameB l).toList != (nameB l).toList) = _
    rw [show ((nameB l).toList != (nameB l).toList) = false from by simp, beadrolllaw07_NameBack.j1, if_neg (by decide)]
    exact back_at l turn hl sl l.length 0 1999 l (by omega) (by omega) hl rfl
end Go.Proofs.Ythhbddmokgbdkaa.Pure
