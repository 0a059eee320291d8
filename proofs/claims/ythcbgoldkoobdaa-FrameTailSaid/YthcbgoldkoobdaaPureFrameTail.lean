/- For any at most 20 texts of at most 100 bytes and any tail of at most 500: Scan finds the frames of the texts and then those of the tail: no other condition. -/
import Derived.Test.YthcbgoldkoobdaaFrameFacts2
namespace Go.Proofs.Ythcbgoldkoobdaa.Pure
open Go.RowKit Go.Proofs.Ythcbgoldkoobdaa.POct Go.Proofs.YthcbgoldkoobdaaW.PrintWords Go.Proofs.YthcbgoldkoobdaaW.PrintLast Go.Proofs.YthcbgoldkoobdaaW.PrintMore Go.Proofs.Ythcbgoldkoobdaa.Given Go.Proofs.Ythcbgoldkoobdaa.Oct Go.Proofs.Ythcbgoldkoobdaa.OctFacts
set_option linter.unusedSimpArgs false
set_option linter.unusedVariables false

theorem loop0 (l : List ByteArray) (tail : ByteArray) (ht : tail.size ≤ 500) (hl : l.length ≤ 20) :
    ∀ (d i k : Nat), i + d = l.length → d + 60000 ≤ k → (∀ s ∈ l.take i, s.size ≤ 100) → beadrolllaw06_FrameTail.l0 k l tail (filesB (l.take i)) (i : Int) = some true := by
  intro d
  induction d with
  | zero =>
    intro i k hi hk hs
    obtain ⟨k, rfl⟩ : ∃ j, k = j + 1 := ⟨k - 1, by omega⟩
    rw [List.take_of_length_le (by omega)] at hs ⊢
    have hfs := files_size l hs
    have hsz := scanS_size tail.size tail
    have hsc := scan_files tail l (filesB l ++ tail).size (fun x h => by have := hs x h; omega) (by rw [ByteArray.size_append]; omega)
    rw [beadrolllaw06_FrameTail.l0, if_neg (by omega), if_pos (by omega), scan_f _ k (by rw [ByteArray.size_append]; omega) (by rw [ByteArray.size_append]; omega), Option.bind_some, scan_f tail k (by omega) (by omega), Option.bind_some, Option.bind_some, if_pos (by simp; omega), Option.bind_some, List.nil_append, if_pos (by simp only []; omega), hsc, texts_f _ k (by rw [List.length_append]; omega) (by rw [List.length_append]; omega), Option.bind_some, if_pos rfl, w64_id (by simp only []; omega) (by simp only []; omega)]
    simp
  | succ d ih =>
    intro i k hi hk hs
    obtain ⟨k, rfl⟩ : ∃ j, k = j + 1 := ⟨k - 1, by omega⟩
    have hi' : i < l.length := by omega
    have hfs := files_size (l.take i) hs
    rw [List.length_take] at hfs
    rw [beadrolllaw06_FrameTail.l0, if_pos (by omega), if_pos (by omega), rdo_at l i hi']
    by_cases hbig : (l[i].size : Int) > 100
    · rw [if_pos hbig]
    · rw [if_neg hbig, frame_f l[i] k (by omega) (by omega), Option.bind_some, if_pos (by simp only [frame_size]; omega), files_take l i hi', w64_id (by omega) (by omega)]
      refine ih (i + 1) k (by omega) (by omega) ?_
      rw [List.take_succ_eq_append_getElem hi']
      intro s h
      rcases List.mem_append.mp h with h | h
      · exact hs s h
      · rw [List.mem_singleton.mp h]; omega
theorem FrameTail (l : List ByteArray) (tail : ByteArray) (_hm : l.length ≤ maxLen) (_hs : ∀ s ∈ l, s.size ≤ maxLen) (_ht : tail.size ≤ 140737488351232) : ∃ k, beadrolllaw06_FrameTail.f k l tail = some true := by
  refine ⟨70000, ?_⟩
  unfold beadrolllaw06_FrameTail.f
  rw [awake06_f _ (by omega), Option.bind_some, if_pos rfl]
  by_cases h1 : (l.length : Int) > 20
  · rw [if_pos h1, beadrolllaw06_FrameTail.j0, if_pos rfl, awake06_f _ (by omega)]; rfl
  · rw [if_neg h1]
    by_cases h2 : (tail.size : Int) > 500
    · rw [decide_eq_true h2, beadrolllaw06_FrameTail.j0, if_pos rfl, awake06_f _ (by omega)]; rfl
    · rw [decide_eq_false h2, beadrolllaw06_FrameTail.j0, if_neg (by simp)]
      exact loop0 l tail (by omega) (by omega) l.length 0 _ (by omega) (by omega) (by simp)

end Go.Proofs.Ythcbgoldkoobdaa.Pure
