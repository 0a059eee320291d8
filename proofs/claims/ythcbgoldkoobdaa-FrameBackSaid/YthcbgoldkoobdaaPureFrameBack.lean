/- For any at most 20 texts of at most 100 bytes and any cut: the frames behind each other are found again; and with a part of the last one gone, all but that: no other condition. -/
import Derived.Test.YthcbgoldkoobdaaFrameFacts2
namespace Go.Proofs.Ythcbgoldkoobdaa.Pure
open Go.RowKit Go.Proofs.Ythcbgoldkoobdaa.POct Go.Proofs.YthcbgoldkoobdaaW.PrintWords Go.Proofs.YthcbgoldkoobdaaW.PrintLast Go.Proofs.YthcbgoldkoobdaaW.PrintMore Go.Proofs.Ythcbgoldkoobdaa.Given Go.Proofs.Ythcbgoldkoobdaa.Oct Go.Proofs.Ythcbgoldkoobdaa.OctFacts
set_option linter.unusedSimpArgs false
set_option linter.unusedVariables false

theorem loop_end (l : List ByteArray) (cut : Int) (hc : 0 ≤ cut ∧ cut ≤ 65535) (hl : l.length ≤ 20) (hs : ∀ s ∈ l, s.size ≤ 100) (last k : Nat) (hlast : ∀ h : l ≠ [], last = 8 + (l.getLast h).size) (hk : 50000 ≤ k) :
    beadrolllaw06_FrameBack.j2 k l cut (filesB l) (last : Int) false = some true := by
  obtain ⟨k, rfl⟩ : ∃ j, k = j + 1 := ⟨k - 1, by omega⟩
  have hfs := files_size l hs
  rw [beadrolllaw06_FrameBack.j2, if_neg (by decide)]
  by_cases h0 : l = []
  · subst h0; rw [if_pos (show ((([] : List ByteArray).length : Nat) : Int) = 0 from rfl)]
  · have hpos := List.length_pos_iff.mpr h0
    have hla := hlast h0
    have hdl := List.dropLast_concat_getLast h0
    have hsl := hs _ (List.getLast_mem h0)
    generalize l.getLast h0 = s at hla hdl hsl
    have hsm : ∀ x ∈ l.dropLast, x.size ≤ 100 := fun x h => (by have := hs x; rw [← hdl] at this; exact this (List.mem_append_left _ h))
    have hfe : filesB l = filesB l.dropLast ++ frameB s := by rw [← files_one, ← files_app, hdl]
    have hfz : (filesB l).size = (filesB l.dropLast).size + (8 + s.size) := by rw [hfe, ByteArray.size_append, frame_size]
    have hm : Int.tmod cut (last : Int) = ((cut.toNat % last : Nat) : Int) := by
      obtain ⟨c, rfl⟩ := Int.eq_ofNat_of_zero_le hc.1
      rw [Int.tmod_eq_emod_of_nonneg (by omega), Int.toNat_natCast]; exact (Int.natCast_emod c last).symm
    have hml : cut.toNat % last < last := Nat.mod_lt _ (by omega)
    rw [if_neg (by omega), if_neg (by omega), w64_id (x := cut) (by omega) (by omega), hm]
    generalize cut.toNat % last = m at hml
    rw [w64_id (x := 1 + (m : Int)) (by omega) (by omega), w64_id (x := ((filesB l).size : Int) - (1 + (m : Int))) (by omega) (by omega), w64_id (x := (l.length : Int) - 1) (by omega) (by omega), w64_id (x := ((filesB l).size : Int) - (last : Int)) (by omega) (by omega), if_pos (by omega), if_pos (by omega)]
    have hcut : (filesB l).extract 0 (((filesB l).size : Int) - (1 + (m : Int))).toNat = filesB l.dropLast ++ arr ((frameL s.data.toList).take (last - 1 - m)) := by
      apply list_inj
      rw [ext_list, hfe, app_list, app_list, arr_list, show (((filesB l.dropLast ++ frameB s).size : Int) - (1 + (m : Int))).toNat = (filesB l.dropLast).data.toList.length + (last - 1 - m) from by rw [← hfe, hfz, size_list]; omega, List.take_length_add_append]
      unfold frameB
      rw [arr_list]
    have hps := part_stop s (by omega) (last - 1 - m) (by omega)
    have hpz : (arr ((frameL s.data.toList).take (last - 1 - m))).size ≤ 108 := by rw [arr_size, List.length_take, frameL_len, size_list]; omega
    rw [hcut, scan_f _ k (by rw [ByteArray.size_append]; omega) (by rw [ByteArray.size_append]; omega), Option.bind_some, scan_files _ l.dropLast _ (fun x h => by have := hsm x h; omega) (by rw [ByteArray.size_append]; omega), scanS_stop hps, List.append_nil]
    rw [if_pos (by omega), if_pos (by omega), show ((l.length : Int) - 1).toNat = l.length - 1 from by omega, ← List.dropLast_eq_take, texts_f _ k (by rw [List.length_dropLast]; omega) (by rw [List.length_dropLast]; omega), Option.bind_some, if_pos rfl]
    simp only [Option.some.injEq, beq_iff_eq]
    omega
theorem loop0 (l : List ByteArray) (cut : Int) (hc : 0 ≤ cut ∧ cut ≤ 65535) (hl : l.length ≤ 20) :
    ∀ (d i k last : Nat), i + d = l.length → d + 60000 ≤ k → (∀ s ∈ l.take i, s.size ≤ 100) → (∀ h : l.take i ≠ [], last = 8 + ((l.take i).getLast h).size) → beadrolllaw06_FrameBack.l0 k l cut (filesB (l.take i)) (last : Int) (i : Int) = some true := by
  intro d
  induction d with
  | zero =>
    intro i k last hi hk hs hla
    obtain ⟨k, rfl⟩ : ∃ j, k = j + 1 := ⟨k - 1, by omega⟩
    have hti : l.take i = l := List.take_of_length_le (by omega)
    simp only [hti] at hs hla ⊢
    have hfs := files_size l hs
    have hsc := scan_files ⟨#[]⟩ l (filesB l).size (fun x h => by have := hs x h; omega) (by show (filesB l).size + 0 ≤ _; omega)
    rw [app_nil, show (⟨#[]⟩ : ByteArray).size = 0 from rfl, scan_nil, List.append_nil] at hsc
    rw [beadrolllaw06_FrameBack.l0, if_neg (by omega), scan_f _ k (by omega) (by omega), Option.bind_some, hsc, texts_f l k (by omega) (by omega), Option.bind_some, if_pos rfl]
    have e : ((((filesB l).size + 0 : Nat) : Int) != ((filesB l).size : Int)) = false := by simp
    show beadrolllaw06_FrameBack.j2 k l cut (filesB l) (last : Int) ((((filesB l).size + 0 : Nat) : Int) != ((filesB l).size : Int)) = some true
    rw [e]
    exact loop_end l cut hc hl hs last k hla (by omega)
  | succ d ih =>
    intro i k last hi hk hs hla
    obtain ⟨k, rfl⟩ : ∃ j, k = j + 1 := ⟨k - 1, by omega⟩
    have hi' : i < l.length := by omega
    have hfs := files_size (l.take i) hs
    rw [List.length_take] at hfs
    rw [beadrolllaw06_FrameBack.l0, if_pos (by omega), if_pos (by omega), rdo_at l i hi']
    by_cases hbig : (l[i].size : Int) > 100
    · rw [if_pos hbig]
    · rw [if_neg hbig, frame_f l[i] k (by omega) (by omega), Option.bind_some, if_pos rfl, if_pos (by simp only [frame_size]; omega), files_take l i hi', frame_size, w64_id (by omega) (by omega)]
      refine ih (i + 1) k (8 + l[i].size) (by omega) (by omega) ?_ ?_
      · rw [List.take_succ_eq_append_getElem hi']
        intro s h
        rcases List.mem_append.mp h with h | h
        · exact hs s h
        · rw [List.mem_singleton.mp h]; omega
      · intro h
        simp only [List.take_succ_eq_append_getElem hi', List.getLast_concat]
theorem FrameBack (l : List ByteArray) (cut : Int) (_hm : l.length ≤ maxLen) (_hs : ∀ s ∈ l, s.size ≤ maxLen) (hw : (Lit.int .u16 cut).wf = true) : ∃ k, beadrolllaw06_FrameBack.f k l cut = some true := by
  have hc : 0 ≤ cut ∧ cut ≤ 65535 := by simp [Lit.wf, IntKind.min, IntKind.max, IntKind.signed, IntKind.bits] at hw; omega
  refine ⟨70000, ?_⟩
  unfold beadrolllaw06_FrameBack.f
  rw [awake06_f _ (by omega), Option.bind_some, if_pos rfl]
  by_cases h1 : (l.length : Int) > 20
  · rw [decide_eq_true h1, beadrolllaw06_FrameBack.j0, if_pos rfl, awake06_f _ (by omega)]; rfl
  · rw [decide_eq_false h1, beadrolllaw06_FrameBack.j0, if_neg (by simp)]
    exact loop0 l cut hc (by omega) l.length 0 _ 0 (by omega) (by omega) (by simp) (by simp)

end Go.Proofs.Ythcbgoldkoobdaa.Pure
