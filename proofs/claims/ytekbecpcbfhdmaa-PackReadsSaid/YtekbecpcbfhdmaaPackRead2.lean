/- The loops of Read, the program's and the reference's. -/
import Derived.Test.YtekbecpcbfhdmaaPackRead
namespace Go.Proofs.Ytekbecpcbfhdmaa.PackFacts
open Go.RowKit Go.Proofs.Ytekbecpcbfhdmaa.PPak Go.Proofs.YtekbecpcbfhdmaaW.PrintWords Go.Proofs.YtekbecpcbfhdmaaW.PrintLast Go.Proofs.YtekbecpcbfhdmaaW.PrintMore Go.Proofs.Ytekbecpcbfhdmaa.Given Go.Proofs.Ytekbecpcbfhdmaa.Oct Go.Proofs.Ytekbecpcbfhdmaa.Name Go.Proofs.Ytekbecpcbfhdmaa.Pack
set_option linter.unusedVariables false
set_option linter.unusedSimpArgs false
def err : ByteArray × Int × Int := (⟨#[]⟩, 0, 2)
def nxt (nx : Int) (i : Nat) : Int := if nx < 0 then (i : Int) else nx
/-- Read, from place i on, with n read, nx told, below fr. -/
def readS (m : ByteArray) : Nat → Nat → ByteArray → Int → Nat → ByteArray × Int × Int
  | 0, _, _, _, _ => err
  | d + 1, i, n, nx, fr =>
    match pc m i with
    | none => err
    | some (.ptr t) => if fr ≤ t then err else readS m d t n (nxt nx (i + 2)) t
    | some (.lab c) => if c = 0 then (if rightB (n ++ rootB) = true then (n ++ rootB, nxt nx (i + 1), 0) else err) else readS m d (i + 1 + c) (n ++ m.extract i (i + 1 + c)) nx fr
def mu (m : ByteArray) (i fr : Nat) : Nat := fr * (m.size + 1) + (m.size - i)
theorem mu_ptr {m : ByteArray} {i fr t : Nat} (h : t < fr) : mu m t t < mu m i fr := by
  unfold mu
  obtain ⟨j, rfl⟩ : ∃ j, fr = t + 1 + j := ⟨fr - t - 1, by omega⟩
  have h1 : (t + 1 + j) * (m.size + 1) = t * (m.size + 1) + (m.size + 1) + j * (m.size + 1) := by rw [Nat.add_mul, Nat.add_mul, Nat.one_mul]
  have h2 : 0 ≤ j * (m.size + 1) := Nat.zero_le _
  omega
theorem pc_lab {m : ByteArray} {i c : Nat} (h : pc m i = some (.lab c)) : i < m.size ∧ c = by8 m i ∧ c < 64 ∧ i + 1 + c ≤ m.size := by
  unfold pc at h
  by_cases h1 : i < m.size
  · rw [if_pos h1] at h
    by_cases h2 : 192 ≤ by8 m i
    · rw [if_pos h2] at h
      by_cases h3 : i + 1 < m.size
      · rw [if_pos h3] at h; cases h
      · rw [if_neg h3] at h; cases h
    · rw [if_neg h2] at h
      by_cases h3 : 64 ≤ by8 m i
      · rw [if_pos h3] at h; cases h
      · rw [if_neg h3] at h
        by_cases h4 : i + 1 + by8 m i ≤ m.size
        · rw [if_pos h4] at h
          cases h
          exact ⟨h1, rfl, by omega, h4⟩
        · rw [if_neg h4] at h; cases h
  · rw [if_neg h1] at h; cases h
theorem pc_ptr {m : ByteArray} {i t : Nat} (h : pc m i = some (.ptr t)) : i + 1 < m.size ∧ 192 ≤ by8 m i ∧ t = (by8 m i - 192) * 256 + by8 m (i + 1) ∧ t < 16384 := by
  unfold pc at h
  by_cases h1 : i < m.size
  · rw [if_pos h1] at h
    by_cases h2 : 192 ≤ by8 m i
    · rw [if_pos h2] at h
      by_cases h3 : i + 1 < m.size
      · rw [if_pos h3] at h
        have hb := by8_lt m i
        have hb1 := by8_lt m (i + 1)
        cases h
        exact ⟨h3, h2, rfl, by omega⟩
      · rw [if_neg h3] at h; cases h
    · rw [if_neg h2] at h
      by_cases h3 : 64 ≤ by8 m i
      · rw [if_pos h3] at h; cases h
      · rw [if_neg h3] at h
        by_cases h4 : i + 1 + by8 m i ≤ m.size
        · rw [if_pos h4] at h; cases h
        · rw [if_neg h4] at h; cases h
  · rw [if_neg h1] at h; cases h
theorem mu_lab {m : ByteArray} {i fr c : Nat} (h : i < m.size) : mu m (i + 1 + c) fr < mu m i fr := by unfold mu; omega
theorem long_wrong {n : ByteArray} (h : 255 < n.size) : rightB n = false := by
  cases hr : rightB n with
  | false => rfl
  | true => have := right_size hr; omega
theorem readS_long (m : ByteArray) : ∀ (d i : Nat) (n : ByteArray) (nx : Int) (fr : Nat), 255 < n.size → readS m d i n nx fr = err := by
  intro d
  induction d with
  | zero => intros; rfl
  | succ d ih =>
    intro i n nx fr hn
    rw [readS]
    cases hp : pc m i with
    | none => rfl
    | some p =>
      cases p with
      | ptr t =>
        simp only []
        by_cases hf : fr ≤ t
        · rw [if_pos hf]
        · rw [if_neg hf]; exact ih _ _ _ _ hn
      | lab c =>
        simp only []
        by_cases h0 : c = 0
        · rw [if_pos h0, long_wrong (by rw [ByteArray.size_append]; omega), if_neg (by decide)]
        · rw [if_neg h0]; exact ih _ _ _ _ (by rw [ByteArray.size_append]; omega)
theorem readS_up (m : ByteArray) : ∀ (d e i : Nat) (n : ByteArray) (nx : Int) (fr : Nat), mu m i fr < d → d ≤ e → readS m e i n nx fr = readS m d i n nx fr := by
  intro d
  induction d with
  | zero => intro e i n nx fr h; omega
  | succ d ih =>
    intro e i n nx fr h he
    obtain ⟨e, rfl⟩ : ∃ j, e = j + 1 := ⟨e - 1, by omega⟩
    rw [readS, readS]
    cases hp : pc m i with
    | none => rfl
    | some p =>
      cases p with
      | ptr t =>
        simp only []
        by_cases hf : fr ≤ t
        · rw [if_pos hf, if_pos hf]
        · rw [if_neg hf, if_neg hf]
          have := mu_ptr (m := m) (i := i) (show t < fr by omega)
          exact ih _ _ _ _ _ (by omega) (by omega)
      | lab c =>
        simp only []
        have hl := pc_lab hp
        have := mu_lab (fr := fr) (c := c) hl.1
        by_cases h0 : c = 0
        · rw [if_pos h0, if_pos h0]
        · rw [if_neg h0, if_neg h0]; exact ih _ _ _ _ _ (by omega) (by omega)
theorem lab_root {m : ByteArray} {i : Nat} (h : i < m.size) (h0 : by8 m i = 0) : m.extract i (i + 1) = rootB := by
  apply list_inj
  rw [mid_list, List.drop_eq_getElem_cons (by rw [size_list]; exact h)]
  have := by8_get h
  rw [h0] at this
  have h1 : m.data.toList[i]'(by rw [size_list]; exact h) = 0 := UInt8.toNat_inj.mp (by rw [this]; rfl)
  rw [h1]; rfl
theorem lab_not {m : ByteArray} {i c : Nat} (h : i < m.size) (hc : c = by8 m i) (h0 : ¬ c = 0) : ¬ (m.extract i (i + 1 + c)).toList = [0] := by
  intro e
  rw [ByteArray.toList_eq, show i + 1 + c = i + (1 + c) from by omega, mid_list, List.drop_eq_getElem_cons (by rw [size_list]; exact h), Nat.add_comm 1 c, List.take_succ_cons] at e
  have h1 := (List.cons.inj e).1
  have := by8_get h
  rw [h1] at this
  apply h0; rw [hc, ← this]; rfl
theorem lab_size {m : ByteArray} {i c : Nat} (h : i + 1 + c ≤ m.size) : (m.extract i (i + 1 + c)).size = 1 + c := by rw [ByteArray.size_extract]; omega
theorem lab_more {m n : ByteArray} {i c : Nat} (h : i + 1 + c ≤ m.size) (hc : c < 64) (hn : n.size < 300) : (n ++ m.extract i (i + 1 + c)).size ≤ 100000 := by rw [ByteArray.size_append, lab_size h]; omega
theorem pj3 (k : Nat) (i : Nat) (n : ByteArray) (nx : Int) : pack_Read.j3 (k + 1) (i : Int) n nx = some (if rightB n = true then (n, nxt nx i, 0) else err) := by
  rw [pack_Read.j3]
  show (if rightB n = true then _ else _) = _
  unfold nxt
  by_cases hr : rightB n = true
  · rw [if_pos hr, if_pos hr]
    by_cases hx : nx < 0
    · rw [if_pos hx, if_pos hx]
    · rw [if_neg hx, if_neg hx]
  · rw [if_neg hr, if_neg hr]; rfl
theorem pread (m : ByteArray) (hs : m.size ≤ 100000) : ∀ (d i k : Nat) (n : ByteArray) (nx : Int) (fr : Nat), i ≤ m.size → fr ≤ m.size → mu m i fr < d → 3 * d + 10 ≤ k → pack_Read.l0 k m (i : Int) n nx (fr : Int) = some (readS m d i n nx fr) := by
  intro d
  induction d with
  | zero => intro i k n nx fr _ _ h; omega
  | succ d ih =>
    intro i k n nx fr hi hfr hmu hk
    obtain ⟨k, rfl⟩ : ∃ j, k = j + 4 := ⟨k - 4, by omega⟩
    rw [pack_Read.l0]
    by_cases hn : (n.size : Int) ≤ 255
    · rw [if_pos hn, at_f m i (k + 2) hi hs, Option.bind_some]
      unfold atR
      rw [readS]
      cases hp : pc m i with
      | none =>
        simp only []
        rw [if_neg (by decide), pack_Read.j2, if_pos rfl]; rfl
      | some p =>
        cases p with
        | ptr t =>
          simp only []
          rw [if_pos trivial]
          have hpp := pc_ptr hp
          by_cases hf : fr ≤ t
          · rw [decide_eq_true (by omega), pack_Read.j2, if_pos rfl, if_pos hf]; rfl
          · have hm := mu_ptr (m := m) (i := i) (show t < fr by omega)
            rw [decide_eq_false (by omega), pack_Read.j2, if_neg (by decide), if_pos (by omega), if_neg hf]
            unfold nxt
            by_cases hx : nx < 0
            · rw [if_pos hx, if_pos hx]
              exact ih t (k + 2) n _ t (by omega) (by omega) (by omega) (by omega)
            · rw [if_neg hx, if_neg hx]
              exact ih t (k + 2) n _ t (by omega) (by omega) (by omega) (by omega)
        | lab c =>
          simp only []
          have hl := pc_lab hp
          have hm := mu_lab (fr := fr) (c := c) hl.1
          rw [if_pos trivial, decide_eq_false (by omega), pack_Read.j2, if_neg (by decide), if_neg (by decide), if_pos (by rw [ByteArray.size_extract]; omega)]
          by_cases h0 : c = 0
          · subst h0
            rw [lab_root hl.1 hl.2.1.symm, if_pos (by decide +kernel), if_pos rfl]
            have := pj3 (k + 1) (i + 1 + 0) (n ++ rootB) nx
            exact this
          · rw [if_neg (lab_not hl.1 hl.2.1 h0), if_neg h0]
            exact ih _ _ _ _ _ (by omega) hfr (by omega) (by omega)
    · rw [if_neg hn, readS_long m (d + 1) i n nx fr (by omega)]
      have := pj3 (k + 2) i n nx
      rw [long_wrong (by omega), if_neg (by decide)] at this
      exact this
set_option maxHeartbeats 2000000 in
theorem rread (m : ByteArray) (hs : m.size ≤ 100000) : ∀ (d i k : Nat) (n : ByteArray) (nx : Int) (fr : Nat), i ≤ m.size → fr ≤ m.size → n.size ≤ 100000 → mu m i fr < d → 3 * d + 1000 ≤ k → beadrollref09_Read.l0 k m (i : Int) n nx (fr : Int) = some (readS m d i n nx fr) := by
  intro d
  induction d with
  | zero => intro i k n nx fr _ _ _ h; omega
  | succ d ih =>
    intro i k n nx fr hi hfr hns hmu hk
    obtain ⟨k, rfl⟩ : ∃ j, k = j + 4 := ⟨k - 4, by omega⟩
    by_cases hn : n.size < 300
    · by_cases hlt : i < m.size
      · rw [beadrollref09_Read.l0, if_pos (by omega), decide_eq_true (by omega), beadrollref09_Read.j2, if_pos rfl, if_pos (by omega), if_pos (by omega), bt_by8 hlt]
        have hb := by8_lt m i
        have hb1 := by8_lt m (i + 1)
        rw [readS]
        unfold pc
        rw [if_pos hlt, w64_id (x := (by8 m i : Int)) (by omega) (by omega)]
        by_cases h0 : by8 m i = 0
        · rw [if_pos (show (by8 m i : Int) = 0 by omega), if_pos (show n.size + 1 ≤ 9223372036854775807 by omega), if_neg (show ¬ 192 ≤ by8 m i by omega), if_neg (show ¬ 64 ≤ by8 m i by omega), if_pos (show i + 1 + by8 m i ≤ m.size by omega)]
          simp only []
          rw [if_pos h0, rright_f _ _ (by omega), w64_id (x := (i : Int) + 1) (by omega) (by omega)]
          unfold nxt
          have fin : ∀ x : Int, ((some (rightB (n ++ rootB))).bind fun t => if t = true then some (n ++ rootB, x, (0 : Int)) else some (⟨#[]⟩, 0, 2)) = some (if rightB (n ++ rootB) = true then (n ++ rootB, x, 0) else err) := by
            intro x
            rw [Option.bind_some]
            by_cases hr : rightB (n ++ rootB) = true
            · rw [if_pos hr, if_pos hr]
            · rw [if_neg hr, if_neg hr]; rfl
          by_cases hx : nx < 0
          · rw [if_pos hx, if_pos hx]; exact fin _
          · rw [if_neg hx, if_neg hx]; exact fin _
        · rw [if_neg (by omega)]
          by_cases hp : 192 ≤ by8 m i
          · rw [if_pos (by omega), if_pos hp, w64_id (x := (i : Int) + 1) (by omega) (by omega)]
            by_cases h1 : i + 1 < m.size
            · rw [if_neg (by omega), if_pos (by omega), if_pos (by omega), if_pos h1, show ((i : Int) + 1) = ((i + 1 : Nat) : Int) from rfl, bt_by8 h1]
              have e1 : wrap64 ((wrap64 ((wrap64 ((by8 m i : Int) - 192)) * 256)) + (wrap64 (by8 m (i + 1) : Int))) = (((by8 m i - 192) * 256 + by8 m (i + 1) : Nat) : Int) := by
                rw [w64_id (x := (by8 m i : Int) - 192) (by omega) (by omega), w64_id (x := ((by8 m i : Int) - 192) * 256) (by omega) (by omega), w64_id (x := (by8 m (i + 1) : Int)) (by omega) (by omega), w64_id (by omega) (by omega)]
                omega
              rw [e1]
              simp only []
              generalize (by8 m i - 192) * 256 + by8 m (i + 1) = t
              by_cases hf : fr ≤ t
              · rw [if_pos (by omega), if_pos hf]; rfl
              · have hm := mu_ptr (m := m) (i := i) (show t < fr by omega)
                rw [if_neg (by omega), if_neg hf, w64_id (by omega) (by omega)]
                unfold nxt
                by_cases hx : nx < 0
                · rw [if_pos hx, if_pos hx]
                  exact ih t (k + 2) n _ t (by omega) (by omega) hns (by omega) (by omega)
                · rw [if_neg hx, if_neg hx]
                  exact ih t (k + 2) n _ t (by omega) (by omega) hns (by omega) (by omega)
            · rw [if_pos (by omega), if_neg h1]; rfl
          · rw [if_neg (by omega), if_neg hp]
            by_cases h64 : 64 ≤ by8 m i
            · rw [if_pos (by omega), if_pos h64]; rfl
            · rw [if_neg (by omega), if_neg h64, w64_id (x := (i : Int) + 1) (by omega) (by omega), w64_id (x := (i : Int) + 1 + (by8 m i : Int)) (by omega) (by omega)]
              by_cases hfit : i + 1 + by8 m i ≤ m.size
              · have hm := mu_lab (fr := fr) (c := by8 m i) hlt
                rw [if_neg (by omega), if_pos (by omega), if_pos (by omega), if_pos hfit]
                simp only []
                have e2 : ((i : Int) + 1 + (by8 m i : Int)).toNat = i + 1 + by8 m i := by omega
                have e3 : wrap64 ((i : Int) + wrap64 (1 + (by8 m i : Int))) = ((i + 1 + by8 m i : Nat) : Int) := by rw [w64_id (x := 1 + (by8 m i : Int)) (by omega) (by omega), w64_id (by omega) (by omega)]; omega
                have hes : (m.extract i (i + 1 + by8 m i)).size = 1 + by8 m i := lab_size hfit
                have hns2 : (n ++ m.extract i (i + 1 + by8 m i)).size ≤ 100000 := lab_more hfit (by omega) hn
                have hmd : mu m (i + 1 + by8 m i) fr < d := by omega
                rw [if_neg h0, Int.toNat_natCast, e2, e3]
                have hle : n.size + (m.extract i (i + 1 + by8 m i)).size ≤ 9223372036854775807 := by omega
                rw [if_pos hle]
                exact ih (i + 1 + by8 m i) (k + 2) (n ++ m.extract i (i + 1 + by8 m i)) nx fr hfit hfr hns2 hmd (by omega)
              · rw [if_pos (by omega), if_neg hfit]; rfl
      · rw [beadrollref09_Read.l0, if_neg (by omega), beadrollref09_Read.j2, if_neg (by decide), readS]
        unfold pc
        rw [if_neg hlt]; rfl
    · rw [readS_long m (d + 1) i n nx fr (by omega), beadrollref09_Read.l0]
      by_cases hlt : i < m.size
      · rw [if_pos (by omega), decide_eq_false (by omega), beadrollref09_Read.j2, if_neg (by decide)]; rfl
      · rw [if_neg (by omega), beadrollref09_Read.j2, if_neg (by decide)]; rfl
/-- Read. -/
def readR (m : ByteArray) (i : Nat) : ByteArray × Int × Int := readS m (mu m i i + 1) i ⟨#[]⟩ (-1) i
def fuel (m : ByteArray) : Nat := 3 * (m.size * (m.size + 1) + m.size + 1) + 1003
theorem mu_fuel {m : ByteArray} {i : Nat} (h : i ≤ m.size) : mu m i i ≤ m.size * (m.size + 1) + m.size := by
  unfold mu
  have := Nat.mul_le_mul_right (m.size + 1) h
  omega
theorem pread_f (m : ByteArray) (hs : m.size ≤ 100000) (i k : Nat) (hi : i ≤ m.size) (hk : fuel m ≤ k) : pack_Read.f k m (i : Int) = some (readR m i) := by
  have := mu_fuel hi
  unfold fuel at hk
  obtain ⟨k, rfl⟩ : ∃ j, k = j + 1 := ⟨k - 1, by omega⟩
  unfold pack_Read.f
  rw [if_neg (by omega), decide_eq_false (by omega), pack_Read.j0, if_neg (by decide)]
  exact pread m hs _ i k _ _ i hi hi (Nat.lt_succ_self _) (by omega)
theorem rread_f (m : ByteArray) (hs : m.size ≤ 100000) (i k : Nat) (hi : i ≤ m.size) (hk : fuel m ≤ k) : beadrollref09_Read.f k m (i : Int) = some (readR m i) := by
  have := mu_fuel hi
  unfold fuel at hk
  obtain ⟨k, rfl⟩ : ∃ j, k = j + 1 := ⟨k - 1, by omega⟩
  unfold beadrollref09_Read.f
  rw [if_neg (by omega), decide_eq_false (by omega), beadrollref09_Read.j0, if_neg (by decide)]
  exact rread m hs _ i k _ _ i hi hi (by decide) (Nat.lt_succ_self _) (by omega)
theorem read_arg (m : ByteArray) (i : Int) (k : Nat) (h : i < 0 ∨ (m.size : Int) < i) (hk : 1 ≤ k) : pack_Read.f k m i = some (⟨#[]⟩, 0, 1) ∧ beadrollref09_Read.f k m i = some (⟨#[]⟩, 0, 1) := by
  obtain ⟨k, rfl⟩ : ∃ j, k = j + 1 := ⟨k - 1, by omega⟩
  unfold pack_Read.f beadrollref09_Read.f
  by_cases h0 : i < 0
  · rw [if_pos h0, if_pos h0, pack_Read.j0, beadrollref09_Read.j0, if_pos rfl]; exact ⟨rfl, rfl⟩
  · rw [if_neg h0, if_neg h0, decide_eq_true (by omega), pack_Read.j0, beadrollref09_Read.j0, if_pos rfl]; exact ⟨rfl, rfl⟩
end Go.Proofs.Ytekbecpcbfhdmaa.PackFacts
