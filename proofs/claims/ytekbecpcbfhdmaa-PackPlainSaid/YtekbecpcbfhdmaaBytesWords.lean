/- Words on []byte(s): a byte of it may be stored, and what is then made a string again is the list with that byte. -/
import Derived.Test.YtekbecpcbfhdmaaWWords
import Derived.Test.YtekbecpcbfhdmaaWMore
namespace Go.Proofs.Ytekbecpcbfhdmaa.BytesWords
open Go.RowKit Go.Proofs.YtekbecpcbfhdmaaW.PrintWords

theorem cell_at {W : World} {g n : Nat} {xs : List Int} (h : ReadsInt W .u8 (some ⟨g, 0, none⟩) n xs) (j : Nat) (hj : j < n) : W.cell? ⟨g, j, none⟩ = some (.int .u8 (xs.getD j 0)) := by
  obtain ⟨ad, e, hc⟩ := h.2.2 (by omega)
  obtain rfl := Option.some.inj e
  have := hc j hj
  rwa [add_plain] at this
theorem bytes_set {W : World} {g n : Nat} {xs : List Int} (h : ReadsInt W .u8 (some ⟨g, 0, none⟩) n xs) (j : Nat) (x : Int) : ReadsInt (W.setCell ⟨g, j, none⟩ (.int .u8 x)) .u8 (some ⟨g, 0, none⟩) n (xs.set j x) := by
  have hx := h.1
  refine ⟨by simpa using h.1, h.2.1, fun _ => ⟨_, rfl, fun i hi => ?_⟩⟩
  rw [add_plain]
  have hci := cell_at h i hi
  by_cases hij : i = j
  · subst hij
    rw [World.cell?_setCell_same _ _ _ hci]
    simp [List.getD_eq_getElem?_getD, show i < xs.length from by omega]
  · rw [World.cell?_setCell_other _ _ _ _ (fun hc => hij (by cases hc; rfl)), hci]
    simp [List.getD_eq_getElem?_getD, Ne.symm hij]
theorem frozen_at (w : World) (e : TypeId) (s : ByteArray) (j : Nat) (hj : j < s.size) : (Lib.bytesWorld w e s).frozen? ⟨w.heap.size, j, none⟩ = false := by
  have h := Lib.bytesWorld_at_new w e s
  have hc := Lib.bytesWorld_cell w e s j hj
  have hs : j < (Lib.bytesCells w e s).size := by
    by_cases hlt : j < (Lib.bytesCells w e s).size
    · exact hlt
    · exfalso
      simp [World.cell?, h, Array.getElem?_eq_none (Nat.le_of_not_lt hlt)] at hc
  simp [World.frozen?, h]
  omega

end Go.Proofs.Ytekbecpcbfhdmaa.BytesWords
