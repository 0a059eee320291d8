/- The pure statement of the law NameOrders. -/
import Derived.Test.YthhbddmokgbdkaaNameFacts3
namespace Go.Proofs.Ythhbddmokgbdkaa.Pure
open Go.RowKit Go.Proofs.Ythhbddmokgbdkaa.PNam Go.Proofs.YthhbddmokgbdkaaW.PrintWords Go.Proofs.YthhbddmokgbdkaaW.PrintLast Go.Proofs.YthhbddmokgbdkaaW.PrintMore Go.Proofs.Ythhbddmokgbdkaa.Given Go.Proofs.Ythhbddmokgbdkaa.Oct Go.Proofs.Ythhbddmokgbdkaa.Name Go.Proofs.Ythhbddmokgbdkaa.NameFacts
theorem orders_off (a b c : ByteArray) (k : Nat) : beadrolllaw07_NameOrders.j0 (k + 1) a b c true = some true := by
  rw [beadrolllaw07_NameOrders.j0, if_pos rfl, awake07_f]; rfl
theorem orders_j2 (l : List ByteArray) (hl : good l) (sl : (nameB l).size ≤ 255) (k : Nat) (hk : 1000 ≤ k) : beadrolllaw07_NameOrders.j2 (k + 1) (nameB l) false = some true := by
  rw [beadrolllaw07_NameOrders.j2, if_neg (by decide), parent_name l hl sl, Option.bind_some]
  cases l with
  | nil => rfl
  | cons s t =>
    have st := name_size s t
    have ht : good t := fun s h => hl s (by simp [h])
    have h1 : cmpN t (s :: t) = -1 := by
      unfold cmpN
      rw [List.map_cons, List.reverse_cons, cmpL_prefix]
    have h2 : underL t (s :: t) = true := by
      unfold underL; rw [under_self, Bool.or_true]
    have h3 : underL (s :: t) t = false := by
      cases h : underL (s :: t) t with
      | false => rfl
      | true => have := under_len _ _ h; rw [List.length_cons] at this; omega
    rw [if_pos rfl, compare_f t (s :: t) ht hl (by omega) sl k (by omega), Option.bind_some, h1, if_pos (by omega), under_f (s :: t) t hl ht sl (by omega) k (by omega), h2, Option.bind_some, if_pos rfl, under_f t (s :: t) ht hl (by omega) sl k (by omega), h3]
    rfl
theorem orders_on (l m n : List ByteArray) (hl : good l) (hm : good m) (hn : good n) (sl : (nameB l).size ≤ 255) (sm : (nameB m).size ≤ 255) (sn : (nameB n).size ≤ 255) (k : Nat) (hk : 1000 ≤ k) :
    beadrolllaw07_NameOrders.j0 (k + 3) (nameB l) (nameB m) (nameB n) false = some true := by
  have O := cmpL_ord
  have hx := cmpN_vals l m
  have hy := cmpN_vals m n
  have hz := cmpN_vals l n
  have hf : cmpN m l = - cmpN l m := O.flip _ _
  have h0 : (cmpN l m == 0) = decide (l.map lowS = m.map lowS) := by
    rw [Bool.eq_iff_iff, beq_iff_eq, decide_eq_true_iff]
    constructor
    · intro h
      exact List.reverse_inj.mp (O.zero _ _ h)
    · intro h
      unfold cmpN; rw [h]; exact O.self _
  have ht : cmpN l m ≤ 0 → cmpN m n ≤ 0 → cmpN l n ≤ 0 ∧ (cmpN l n = 0 → cmpN l m = 0 ∧ cmpN m n = 0) := fun a b => O.le_trans a b
  rw [beadrolllaw07_NameOrders.j0, if_neg (by decide), compare_f l m hl hm sl sm (k + 2) (by omega), Option.bind_some, compare_f m n hm hn sm sn (k + 2) (by omega), Option.bind_some, compare_f l n hl hn sl sn (k + 2) (by omega), Option.bind_some, compare_f m l hm hl sm sl (k + 2) (by omega), Option.bind_some, if_pos (by rw [hf, Int.neg_neg, w64_id (by omega) (by omega)]), alike_f l m hl hm sl sm, Option.bind_some, h0]
  rw [show ((decide (l.map lowS = m.map lowS)) != (decide (l.map lowS = m.map lowS))) = false from by simp, beadrolllaw07_NameOrders.j1, if_neg (by decide)]
  have J := orders_j2 l hl sl k hk
  generalize cmpN l m = x at *
  generalize cmpN m n = y at *
  generalize cmpN l n = z at *
  by_cases c1 : x ≤ 0
  · rw [if_pos c1]
    by_cases c2 : y ≤ 0
    · rw [if_pos c2]
      have t := ht c1 c2
      rw [if_neg (by omega)]
      by_cases c3 : z = 0
      · obtain ⟨t1, t2⟩ := t.2 c3
        rw [if_pos c3, if_pos t1, t2]
        exact J
      · rw [if_neg c3]; exact J
    · rw [if_neg c2]; exact J
  · rw [if_neg c1]; exact J
theorem NameOrders : beadrolllaw07_NameOrders.Pure := by
  intro a b c w0 w1 w2
  refine ⟨2003, ?_⟩
  unfold beadrolllaw07_NameOrders.f
  rw [awake07_f, Option.bind_some, if_pos rfl, rright_f a 2003 (by omega), Option.bind_some]
  cases ha : rightB a with
  | false => rw [if_neg (by decide)]; exact orders_off a b c _
  | true =>
    rw [if_pos rfl, rright_f b 2003 (by omega), Option.bind_some]
    cases hb : rightB b with
    | false => rw [if_neg (by decide)]; exact orders_off a b c _
    | true =>
      rw [if_pos rfl, rright_f c 2003 (by omega), Option.bind_some]
      cases hc : rightB c with
      | false => exact orders_off a b c _
      | true =>
        obtain ⟨l, gl, rfl, sl⟩ := (right_iff a).mp ha
        obtain ⟨m, gm, rfl, sm⟩ := (right_iff b).mp hb
        obtain ⟨n, gn, rfl, sn⟩ := (right_iff c).mp hc
        exact orders_on l m n gl gm gn sl sm sn 2000 (by omega)
end Go.Proofs.Ythhbddmokgbdkaa.Pure
