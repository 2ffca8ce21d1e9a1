/- The reference's validity, as numbers. -/
import Derived.Test.YtcmifojplgmgkaaP37
import Derived.Test.YtcmifojplgmgkaaCRef
set_option linter.unusedVariables false
set_option linter.unusedSectionVars false
namespace Go.Proofs.Ytcmifojplgmgkaa.CEv
open Go.RowKit Go.Proofs.Ytcmifojplgmgkaa.P Go.Proofs.YtcmifojplgmgkaaW.PrintWords Go.Proofs.YtcmifojplgmgkaaW.PrintMore
theorem refvalid_l1 (P : List S93) (x : Int) (hx0 : 0 ≤ x) (hx1 : x ≤ 1000) (t : S49) (h16 : t.f3.length ≤ 16) : ∀ (n i k : Nat) (e : Int), i + n = t.f3.length →
    ontimeref43_Valid.l1 (k + (n + 1)) P x e (i : Int) t.f0 t.f1 t.f2 (t.f3.map to94) = if secB t.f0 e (t.f3.drop i) = true then ontimeref43_Valid.l0 k P (x + 1) else some false := by
  intro n
  induction n with
  | zero =>
    intro i k e hi
    simp only [ontimeref43_Valid.l1]
    rw [if_neg (by rw [List.length_map]; omega), List.drop_of_length_le (by omega), if_pos (by rfl), wrap64_of (x := x + 1) (by omega) (by omega)]
  | succ n ih =>
    intro i k e hi
    have hil : i < t.f3.length := by omega
    have hb := ih (i + 1) k t.f3[i].f2 (by omega)
    rw [show ((i + 1 : Nat) : Int) = (i : Int) + 1 by omega] at hb
    rw [show k + (n + 1 + 1) = (k + (n + 1)) + 1 by omega]
    generalize k + (n + 1) = q at hb ⊢
    simp only [ontimeref43_Valid.l1]
    have e1 : rd_T94 (t.f3.map to94) (i : Int) = to94 t.f3[i] := by rw [rd94_at _ i (by rw [List.length_map]; exact hil), List.getElem_map]
    rw [if_pos (by rw [List.length_map]; omega), if_pos (by omega), e1, List.drop_eq_getElem_cons hil]
    generalize t.f3[i] = s at *
    unfold secB
    show (if s.f1 < e then some false else if s.f2 ≤ s.f1 then some false else if s.f2 > t.f0 then some false else if s.f0 < 0 then some false else if s.f0 > 1000 then some false else ontimeref43_Valid.l1 q P x s.f2 (wrap64 ((i : Int) + 1)) t.f0 t.f1 t.f2 (t.f3.map to94)) = _
    rw [wrap64_of (x := (i : Int) + 1) (by omega) (by omega)]
    by_cases h : e ≤ s.f1 ∧ s.f1 < s.f2 ∧ s.f2 ≤ t.f0 ∧ 0 ≤ s.f0 ∧ s.f0 ≤ 1000
    · rw [decide_eq_true h, Bool.true_and, if_neg (by omega), if_neg (by omega), if_neg (by omega), if_neg (by omega), if_neg (by omega)]
      exact hb
    · rw [decide_eq_false h, Bool.false_and, if_neg (show ¬ (false = true) by simp)]
      by_cases h1 : s.f1 < e
      · rw [if_pos h1]
      · rw [if_neg h1]
        by_cases h2 : s.f2 ≤ s.f1
        · rw [if_pos h2]
        · rw [if_neg h2]
          by_cases h3 : s.f2 > t.f0
          · rw [if_pos h3]
          · rw [if_neg h3]
            by_cases h4 : s.f0 < 0
            · rw [if_pos h4]
            · rw [if_neg h4, if_pos (by omega)]
theorem refvalid_j1 {k : Nat} (P : List S93) (x : Int) (t : S93) : ontimeref43_Valid.j1 (k + 1) P x true t.f0 t.f1 t.f2 t.f3 = some false := by
  simp only [ontimeref43_Valid.j1]
  rw [if_pos trivial]
theorem refvalid_l0 (l : List S49) (h40 : l.length ≤ 40) (h16 : ∀ t ∈ l, t.f3.length ≤ 16) : ∀ (n x k : Nat), x + n = l.length → 20 * n + 1 ≤ k →
    ontimeref43_Valid.l0 k (l.map to93) (x : Int) = some ((l.drop x).all vldT) := by
  intro n
  induction n with
  | zero =>
    intro x k hx hk
    obtain ⟨k, rfl⟩ : ∃ m, k = m + 1 := ⟨k - 1, by omega⟩
    simp only [ontimeref43_Valid.l0]
    rw [if_neg (by rw [List.length_map]; omega), List.drop_of_length_le (by omega)]
    rfl
  | succ n ih =>
    intro x k hx hk
    have hxl : x < l.length := by omega
    have h := h16 l[x] (List.getElem_mem _)
    obtain ⟨k, rfl⟩ : ∃ m, k = ((m + (l[x].f3.length + 1)) + 1) + 1 := ⟨k - l[x].f3.length - 3, by omega⟩
    have a := refvalid_l1 (l.map to93) (x : Int) (by omega) (by omega) l[x] h l[x].f3.length 0 k 0 (by omega)
    have b := ih (x + 1) k (by omega) (by omega)
    rw [show ((x + 1 : Nat) : Int) = (x : Int) + 1 by omega] at b
    rw [show ((0 : Nat) : Int) = 0 from rfl, List.drop_zero, b] at a
    have e1 : rd_T93 (l.map to93) (x : Int) = to93 l[x] := by rw [rd93_at _ x (by rw [List.length_map]; exact hxl), List.getElem_map]
    generalize k + (l[x].f3.length + 1) = q at a ⊢
    simp only [ontimeref43_Valid.l0]
    rw [if_pos (by rw [List.length_map]; omega), if_pos (by omega), e1, List.drop_eq_getElem_cons hxl, List.all_cons]
    generalize l[x] = t at *
    have j1 := refvalid_j1 (k := q) (l.map to93) (x : Int) (to93 t)
    generalize hrest : (l.drop (x + 1)).all vldT = rest at *
    unfold vldT
    have e2 : (to93 t).f3.length = t.f3.length := List.length_map _
    show (if t.f0 < 1 then ontimeref43_Valid.j1 (q + 1) _ _ true t.f0 t.f1 t.f2 (to93 t).f3 else if t.f0 > 1000 then ontimeref43_Valid.j1 (q + 1) _ _ true t.f0 t.f1 t.f2 (to93 t).f3 else if t.f1 < 1 then ontimeref43_Valid.j1 (q + 1) _ _ true t.f0 t.f1 t.f2 (to93 t).f3 else if t.f1 > 1000 then ontimeref43_Valid.j1 (q + 1) _ _ true t.f0 t.f1 t.f2 (to93 t).f3 else if t.f2 < 1 then ontimeref43_Valid.j1 (q + 1) _ _ true t.f0 t.f1 t.f2 (to93 t).f3 else if t.f2 > t.f1 then ontimeref43_Valid.j1 (q + 1) _ _ true t.f0 t.f1 t.f2 (to93 t).f3 else ontimeref43_Valid.j1 (q + 1) _ _ (decide (((to93 t).f3.length : Int) > 8)) t.f0 t.f1 t.f2 (to93 t).f3) = _
    have j2 : ontimeref43_Valid.j1 (q + 1) (l.map to93) (x : Int) true t.f0 t.f1 t.f2 (to93 t).f3 = some false := j1
    rw [e2, j2]
    by_cases hc : 1 ≤ t.f0 ∧ t.f0 ≤ 1000 ∧ 1 ≤ t.f1 ∧ t.f1 ≤ 1000 ∧ 1 ≤ t.f2 ∧ t.f2 ≤ t.f1 ∧ t.f3.length ≤ 8
    · rw [if_neg (by omega), if_neg (by omega), if_neg (by omega), if_neg (by omega), if_neg (by omega), if_neg (by omega), decide_eq_true hc, Bool.true_and, decide_eq_false (by omega)]
      simp only [ontimeref43_Valid.j1]
      rw [if_neg (by simp)]
      have a' : ontimeref43_Valid.l1 q (l.map to93) (x : Int) 0 0 t.f0 t.f1 t.f2 (to93 t).f3 = _ := a
      rw [a']
      cases secB t.f0 0 t.f3 <;> simp
    · rw [decide_eq_false hc, Bool.false_and, Bool.false_and]
      by_cases h1 : t.f0 < 1
      · rw [if_pos h1]
      · rw [if_neg h1]
        by_cases h2 : t.f0 > 1000
        · rw [if_pos h2]
        · rw [if_neg h2]
          by_cases h3 : t.f1 < 1
          · rw [if_pos h3]
          · rw [if_neg h3]
            by_cases h4 : t.f1 > 1000
            · rw [if_pos h4]
            · rw [if_neg h4]
              by_cases h5 : t.f2 < 1
              · rw [if_pos h5]
              · rw [if_neg h5]
                by_cases h6 : t.f2 > t.f1
                · rw [if_pos h6]
                · rw [if_neg h6, decide_eq_true (show (t.f3.length : Int) > 8 by omega)]
                  exact j2
theorem refvalid_eq {k : Nat} (hk : 900 ≤ k) {l : List S49} (h40 : l.length ≤ 40) (h16 : ∀ t ∈ l, t.f3.length ≤ 16) : ontimeref43_Valid.f k (l.map to93) = some (vld l) := by
  unfold ontimeref43_Valid.f vld
  rw [List.length_map]
  by_cases h : (l.length : Int) > 20
  · rw [if_pos h, decide_eq_false (by omega), Bool.false_and]
  · rw [if_neg h, decide_eq_true (by omega), Bool.true_and]
    have := refvalid_l0 l h40 h16 l.length 0 k (by omega) (by omega)
    rw [show ((0 : Nat) : Int) = 0 from rfl, List.drop_zero] at this
    exact this
end Go.Proofs.Ytcmifojplgmgkaa.CEv
