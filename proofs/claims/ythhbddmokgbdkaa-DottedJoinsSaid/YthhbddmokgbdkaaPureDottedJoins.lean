/- The pure statement of the law DottedJoins. -/
import Derived.Test.YthhbddmokgbdkaaDotFacts
namespace Go.Proofs.Ythhbddmokgbdkaa.Pure
open Go.RowKit Go.Proofs.Ythhbddmokgbdkaa.PNam Go.Proofs.YthhbddmokgbdkaaW.PrintWords Go.Proofs.YthhbddmokgbdkaaW.PrintLast Go.Proofs.YthhbddmokgbdkaaW.PrintMore Go.Proofs.Ythhbddmokgbdkaa.Given Go.Proofs.Ythhbddmokgbdkaa.Oct Go.Proofs.Ythhbddmokgbdkaa.Name Go.Proofs.Ythhbddmokgbdkaa.NameFacts Go.Proofs.Ythhbddmokgbdkaa.Dot Go.Proofs.Ythhbddmokgbdkaa.DotFacts
theorem joins_off (s n : ByteArray) (k : Nat) : beadrolllaw08_DottedJoins.j0 (k + 1) s n true = some true := by
  rw [beadrolllaw08_DottedJoins.j0, if_pos rfl, awake08_f]; rfl
theorem of_long {l : List ByteArray} (hg : good l) (hs : ¬ (nameB l).size ≤ 255) : ofR l = (⟨#[]⟩, 3) := by
  have h1 : hasE l = false := by
    unfold hasE; rw [List.any_eq_false]; intro s h e
    have e := of_decide_eq_true e; subst e; exact absurd (hg _ h).1 (by decide)
  have h2 : l.any (fun s => decide (63 < s.size)) = false := by
    rw [List.any_eq_false]; intro s h e; have := of_decide_eq_true e; have := hg s h; omega
  unfold ofR
  rw [h1]
  show longR l = _
  rw [long_short h2, if_pos (by omega)]
theorem body_cons (s : ByteArray) (l : List ByteArray) : bodyT (s :: l) = bodyT [s] ++ bodyT l := by
  rw [bodyT, bodyT, bodyT, List.append_nil]
theorem joins_on (s : ByteArray) (l : List ByteArray) (hs1 : 1 ≤ s.size) (hs2 : s.size ≤ 63) (hg : good l) (sl : (nameB l).size ≤ 255) (k : Nat) (hk : 20000 ≤ k) :
    beadrolllaw08_DottedJoins.j0 (k + 2) s (nameB l) false = some true := by
  have ll := name_len l hg
  have g1 : good [s] := by intro x hx; rw [List.mem_singleton.mp hx]; exact ⟨hs1, hs2⟩
  have g2 : good (s :: l) := by
    intro x hx
    rcases List.mem_cons.mp hx with h | h
    · rw [h]; exact ⟨hs1, hs2⟩
    · exact hg x h
  have z1 : (nameB [s]).size ≤ 255 := by
    have h := name_size s []
    have : (nameB []).size = 1 := rfl
    omega
  rw [beadrolllaw08_DottedJoins.j0, if_neg (by decide), rlabels_yes l (k + 1) hg sl (by omega), Option.bind_some, Option.bind_some, if_pos (by simp only [List.length_singleton]; omega)]
  show ((beadrollref07_Of.f (k + 1) (s :: l)).bind _) = _
  rw [rof_f (s :: l) (k + 1) (by rw [List.length_cons]; omega) (by rw [List.length_cons]; omega), Option.bind_some, rof_f [s] (k + 1) (by simp) (by simp only [List.length_singleton]; omega), of_good g1 z1, Option.bind_some]
  by_cases hz : (nameB (s :: l)).size ≤ 255
  · rw [of_good g2 hz, if_pos rfl, beadrolllaw08_DottedJoins.j1]
    rw [if_neg (by show ¬ ((0 : Int) != 0) = true; decide)]
    cases l with
    | nil =>
      rw [if_pos (by rw [ByteArray.toList_eq]; rfl), text_f, Option.bind_some, Option.bind_some]
      simp
    | cons t l =>
      have hne : ¬ (nameB (t :: l)).toList = ([0] : List UInt8) := by
        intro h
        exact name_root (toList_inj.mp (h.trans (by rw [ByteArray.toList_eq]; rfl : ([0] : List UInt8) = rootB.toList)))
      have hlen : (bodyT [s]).length + (bodyT (t :: l)).length ≤ 100000 := by
        have h1 := body_len [s]
        have h2 := body_len (t :: l)
        omega
      rw [if_neg hne, text_f, Option.bind_some, text_f, Option.bind_some, text_f, Option.bind_some, text_name _ g2 hz, text_name _ g1 z1, text_name _ hg sl]
      show (if (arr (bodyT [s])).size + (arr (bodyT (t :: l))).size ≤ _ then some ((arr (bodyT (s :: t :: l))).toList == (arr (bodyT [s]) ++ arr (bodyT (t :: l))).toList) else none) = _
      rw [if_pos (by rw [arr_size, arr_size]; omega), arr_app, body_cons s (t :: l)]
      simp
  · rw [of_long g2 hz, if_neg (by show ¬ (3 : Int) = 0; decide), beadrolllaw08_DottedJoins.j1, if_pos rfl]; rfl
theorem DottedJoins : beadrolllaw08_DottedJoins.Pure := by
  intro s n w0 w1
  refine ⟨20002, ?_⟩
  unfold beadrolllaw08_DottedJoins.f
  rw [awake08_f, Option.bind_some, if_pos rfl, rright_f n 20002 (by omega), Option.bind_some]
  cases h : rightB n with
  | false => rw [if_neg (by decide)]; exact joins_off s n _
  | true =>
    rw [if_pos rfl]
    by_cases h0 : s.size = 0
    · rw [if_pos (by omega)]; exact joins_off s n _
    · rw [if_neg (by omega)]
      by_cases h1 : s.size ≤ 63
      · rw [decide_eq_false (by omega)]
        obtain ⟨l, hg, rfl, hs⟩ := (right_iff n).mp h
        exact joins_on s l (by omega) h1 hg hs 20000 (by omega)
      · rw [decide_eq_true (by omega)]; exact joins_off s n _
end Go.Proofs.Ythhbddmokgbdkaa.Pure
