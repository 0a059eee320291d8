/- For any bytes of at most 200, any at most 40 numbers and any at most 40 widths: what Split takes off, Join puts back; and what Join makes, Split takes off again: no other condition. -/
import Derived.Test.YthcbgoldkoobdaaOctFacts
namespace Go.Proofs.Ythcbgoldkoobdaa.Pure
open Go.RowKit Go.Proofs.Ythcbgoldkoobdaa.POct Go.Proofs.YthcbgoldkoobdaaW.PrintWords Go.Proofs.YthcbgoldkoobdaaW.PrintLast Go.Proofs.YthcbgoldkoobdaaW.PrintMore Go.Proofs.Ythcbgoldkoobdaa.Given Go.Proofs.Ythcbgoldkoobdaa.Oct Go.Proofs.Ythcbgoldkoobdaa.OctFacts
set_option linter.unusedSimpArgs false

theorem splitL_range : ∀ (ws : List Int) (b : ByteArray) (xs : List Int) (r : ByteArray), (∀ n ∈ ws, n ≤ 8) → splitL b ws [] = some (xs, r) → ∀ v ∈ xs, 0 ≤ v ∧ v ≤ 18446744073709551615
  | [], b, xs, r, _, h => by simp only [splitL, Option.some.injEq, Prod.mk.injEq] at h; obtain ⟨rfl, rfl⟩ := h; simp
  | n :: ws, b, xs, r, hw, h => by
    rw [splitL] at h
    by_cases hn : n.toNat ≤ b.size
    · rw [if_pos hn, splitL_acc] at h
      obtain ⟨⟨ys, r'⟩, h1, h2⟩ := Option.map_eq_some_iff.mp h
      simp only [Prod.mk.injEq, List.nil_append, List.singleton_append] at h2
      obtain ⟨rfl, rfl⟩ := h2
      have ih := splitL_range ws _ ys r' (fun n h => hw n (by simp [h])) h1
      intro v hv
      rcases List.mem_cons.mp hv with h | h
      · subst h
        have h3 := beN_lt (b.data.toList.take n.toNat)
        rw [take_size b _ hn] at h3
        have := pow_fit (n := n.toNat) (by have := hw n (by simp); omega)
        omega
      · exact ih v h
    · rw [if_neg hn] at h; exact absurd h (by simp)
theorem back1 (b : ByteArray) (vs ws : List Int) (k : Nat) (hb : b.size ≤ 200) (h1 : vs.length ≤ 40) (h2 : ws.length ≤ 40) (hv : ∀ v ∈ vs, 0 ≤ v ∧ v ≤ 18446744073709551615) (hk : 100 ≤ k) : beadrolllaw01_OctetsBack.j1 (k + 1) b vs ws = some true := by
  rw [beadrolllaw01_OctetsBack.j1, join_f vs ws k h2 h1 hv (by omega), Option.bind_some, joinR]
  by_cases hw : ws.all isWidth = true ∧ vs.length = ws.length
  · rw [if_pos hw]
    cases hj : joinL vs ws [] with
    | none => show (if (1 : Int) = 0 then _ else _) = _; rw [if_neg (by decide)]; simp
    | some l =>
      have hl := joinL_len vs ws l (fun n hn => (wid8 (all_mem hw.1 n hn)).2) hj
      have hs := join_split vs ws b l (fun v h => (hv v h).1) hj
      show (if (0 : Int) = 0 then _ else _) = _
      rw [if_pos rfl, if_pos (by rw [arr_size]; omega), split_f _ ws (by rw [ByteArray.size_append, arr_size]; omega) (by omega), Option.bind_some]
      have : splitR (arr l ++ b) ws = (vs, b, 0) := by unfold splitR; rw [if_pos hw.1, hs]
      rw [this, if_pos rfl, if_pos rfl, same_f vs k (by omega) (by omega)]
      rfl
  · rw [if_neg hw, if_neg (by decide)]; simp
theorem OctetsBack : beadrolllaw01_OctetsBack.Pure := by
  intro b vs ws hb hm hm8 hv hm' hm8' hw
  refine ⟨102, ?_⟩
  unfold beadrolllaw01_OctetsBack.f
  rw [awake01_f, Option.bind_some, if_pos rfl]
  by_cases h0 : (b.size : Int) > 200
  · rw [if_pos h0, beadrolllaw01_OctetsBack.j0, if_pos rfl, awake01_f]; rfl
  rw [if_neg h0]
  by_cases h1 : (vs.length : Int) > 40
  · rw [if_pos h1, beadrolllaw01_OctetsBack.j0, if_pos rfl, awake01_f]; rfl
  rw [if_neg h1]
  by_cases h2 : (ws.length : Int) > 40
  · rw [decide_eq_true h2, beadrolllaw01_OctetsBack.j0, if_pos rfl, awake01_f]; rfl
  have hv' : ∀ v ∈ vs, 0 ≤ v ∧ v ≤ 18446744073709551615 := fun v h => wfu64 (hv v h)
  have h3 := back1 b vs ws 100 (by omega) (by omega) (by omega) hv' (by omega)
  rw [decide_eq_false h2, beadrolllaw01_OctetsBack.j0, if_neg (by simp), split_f b ws (by omega) (by omega), Option.bind_some, splitR]
  by_cases hww : ws.all isWidth = true
  · rw [if_pos hww]
    cases hs : splitL b ws [] with
    | none => show (if (2 : Int) = 0 then _ else _) = _; rw [if_neg (by decide), h3]
    | some x =>
      obtain ⟨xs, r⟩ := x
      have hl := splitL_len ws b xs r hs
      have hr := splitL_range ws b xs r (fun n hn => (wid8 (all_mem hww n hn)).2) hs
      obtain ⟨l, hj, hb2⟩ := split_join ws b xs r hs
      have hsz := congrArg ByteArray.size hb2
      rw [ByteArray.size_append] at hsz
      show (if (0 : Int) = 0 then _ else _) = _
      rw [if_pos rfl, join_f xs ws 101 (by omega) (by omega) hr (by omega), Option.bind_some]
      have : joinR xs ws = (arr l, 0) := by unfold joinR; rw [if_pos ⟨hww, hl⟩, hj]
      rw [this, if_pos rfl, if_pos (by simp only []; omega), hb2, if_pos rfl, h3]
  · rw [if_neg hww, if_neg (by decide), h3]

end Go.Proofs.Ythcbgoldkoobdaa.Pure
