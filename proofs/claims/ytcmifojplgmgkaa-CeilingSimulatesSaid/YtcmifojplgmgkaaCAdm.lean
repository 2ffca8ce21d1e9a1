/- What Simulate admits, as numbers. -/
import Derived.Test.YtcmifojplgmgkaaP16
import Derived.Test.YtcmifojplgmgkaaP11
set_option linter.unusedVariables false
set_option linter.unusedSectionVars false
namespace Go.Proofs.Ytcmifojplgmgkaa.CEv
open Go.RowKit Go.Proofs.Ytcmifojplgmgkaa.P Go.Proofs.YtcmifojplgmgkaaW.PrintWords Go.Proofs.YtcmifojplgmgkaaW.PrintMore
/-- Release times that are far enough from each other, behind one. -/
def spc (p : Int) : Option Int → List Int → Bool
  | _, [] => true
  | none, t :: r => decide (0 ≤ t) && spc p (some t) r
  | some u, t :: r => decide (0 ≤ t) && (decide (p ≤ t - u) && spc p (some t) r)
/-- What stands ahead of a place. -/
def prevAt (r : List Int) (i : Nat) : Option Int := if i = 0 then none else r[i - 1]?
theorem prevAt_succ {r : List Int} {i : Nat} (h : i < r.length) : prevAt r (i + 1) = some r[i] := by
  unfold prevAt
  rw [if_neg (by omega), Nat.add_sub_cancel, List.getElem?_eq_getElem h]
/-- The release times of all tasks. -/
def spcAll (l : List S49) (rel : List (List Int)) : Bool := (l.zip rel).all fun x => spc x.1.f1 none x.2
/-- Whole numbers of 64 bits. -/
def W64 (r : List Int) : Prop := ∀ x ∈ r, -9223372036854775808 ≤ x ∧ x ≤ 9223372036854775807
theorem rdL5_at (rel : List (List Int)) (i : Nat) (h : i < rel.length) : rd_L5 rel (i : Int) = rel[i] := by
  unfold rd_L5
  rw [Int.toNat_natCast, List.getD_eq_getElem?_getD, List.getElem?_eq_getElem h]
  rfl
theorem rdI_at (r : List Int) (i : Nat) (h : i < r.length) : rd r (i : Int) = r[i] := by
  unfold rd
  rw [Int.toNat_natCast, List.getD_eq_getElem?_getD, List.getElem?_eq_getElem h]
  rfl
theorem spc_at (p : Int) (r : List Int) (i : Nat) (h : i < r.length) : spc p (prevAt r i) (r.drop i) = (decide (0 ≤ r[i]) && ((if i = 0 then true else decide (p ≤ r[i] - (r.getD (i - 1) 0))) && spc p (prevAt r (i + 1)) (r.drop (i + 1)))) := by
  rw [List.drop_eq_getElem_cons h, prevAt_succ h]
  by_cases h0 : i = 0
  · subst h0
    unfold prevAt
    rw [if_pos rfl, if_pos rfl, Bool.true_and]
    rfl
  · unfold prevAt
    rw [if_neg h0, if_neg h0, List.getD_eq_getElem?_getD, List.getElem?_eq_getElem (show i - 1 < r.length by omega)]
    rfl
section
variable {l : List S49} {rel : List (List Int)} (hl : l.length ≤ 40) (hp : ∀ t ∈ l, -9223372036854775808 ≤ t.f1 ∧ t.f1 ≤ 9223372036854775807) (he : rel.length = l.length) (hr : ∀ r ∈ rel, r.length ≤ 2000 ∧ W64 r)
include hl he hr
theorem admit_l1 (x : Nat) (hx : x < rel.length) : ∀ (n i k : Nat), i + n = rel[x].length → (∀ j, j < i → ∀ h : j < rel[x].length, 0 ≤ rel[x][j]) →
    ceiling_admit.l1 (k + (n + 1)) l (x : Int) rel[x] rel (rel.length : Int) (x : Int) rel[x] (rel[x].length : Int) (i : Int) = if spc (rd_T49 l (x : Int)).f1 (prevAt rel[x] i) (rel[x].drop i) = true then ceiling_admit.l0 k l rel (rel.length : Int) ((x : Int) + 1) else some 2 := by
  obtain ⟨h2, hw⟩ := hr rel[x] (List.getElem_mem _)
  intro n
  induction n with
  | zero =>
    intro i k hi hpos
    simp only [ceiling_admit.l1]
    rw [if_neg (by omega), List.drop_of_length_le (by omega)]
    have : ∀ o, spc (rd_T49 l (x : Int)).f1 o [] = true := fun o => by cases o <;> rfl
    rw [this, if_pos rfl, wrap64_of (x := (x : Int) + 1) (by omega) (by omega)]
  | succ n ih =>
    intro i k hi hpos
    have hil : i < rel[x].length := by omega
    have := ih (i + 1) k (by omega)
    rw [show ((i + 1 : Nat) : Int) = (i : Int) + 1 by omega] at this
    rw [show k + (n + 1 + 1) = (k + (n + 1)) + 1 by omega]
    generalize k + (n + 1) = q at this ⊢
    simp only [ceiling_admit.l1]
    rw [if_pos (by omega), if_pos (by omega), if_pos (by omega), rdI_at _ i hil, spc_at _ _ i hil]
    by_cases h0 : rel[x][i] < 0
    · rw [if_pos h0, decide_eq_false (by omega), Bool.false_and, if_neg (by simp)]
    · rw [if_neg h0, decide_eq_true (show 0 ≤ rel[x][i] by omega), Bool.true_and]
      have hnext := this (fun j hj h => by
        by_cases e : j = i
        · subst e; omega
        · exact hpos j (by omega) h)
      rw [wrap64_of (x := (i : Int) + 1) (by omega) (by omega)]
      by_cases hi0 : i = 0
      · subst hi0
        rw [if_neg (by omega), if_pos rfl, Bool.true_and]
        exact hnext
      · have hj : i - 1 < rel[x].length := by omega
        have e1 : wrap64 ((i : Int) - 1) = ((i - 1 : Nat) : Int) := by rw [wrap64_of (by omega) (by omega)]; omega
        have b1 := hw rel[x][i] (List.getElem_mem _)
        have b2 := hw rel[x][i - 1] (List.getElem_mem _)
        have b3 := hpos (i - 1) (by omega) hj
        rw [if_pos (by omega), e1, if_pos (by omega), if_pos (by omega), if_pos (by omega), if_pos (by omega), rdI_at _ _ hj, wrap64_of (x := rel[x][i] - rel[x][i - 1]) (by omega) (by omega), if_neg hi0, List.getD_eq_getElem?_getD, List.getElem?_eq_getElem hj]
        by_cases h1 : rel[x][i] - rel[x][i - 1] < (rd_T49 l (x : Int)).f1
        · rw [if_pos h1, decide_eq_false (show ¬ (rd_T49 l (x : Int)).f1 ≤ rel[x][i] - (some rel[x][i - 1]).getD 0 by show ¬ _ ≤ rel[x][i] - rel[x][i - 1]; omega), Bool.false_and, if_neg (by simp)]
        · rw [if_neg h1, decide_eq_true (show (rd_T49 l (x : Int)).f1 ≤ rel[x][i] - (some rel[x][i - 1]).getD 0 by show _ ≤ rel[x][i] - rel[x][i - 1]; omega), Bool.true_and]
          exact hnext
theorem spcAll_drop (x : Nat) (hx : x < rel.length) : ((l.drop x).zip (rel.drop x)).all (fun y => spc y.1.f1 none y.2) = (spc (rd_T49 l (x : Int)).f1 none rel[x] && ((l.drop (x + 1)).zip (rel.drop (x + 1))).all (fun y => spc y.1.f1 none y.2)) := by
  have hxl : x < l.length := by omega
  rw [List.drop_eq_getElem_cons hxl, List.drop_eq_getElem_cons hx, List.zip_cons_cons, List.all_cons, rd49_at l x hxl]
theorem admit_l0 : ∀ (n x k : Nat), x + n = rel.length → 2002 * n + 1 ≤ k →
    ceiling_admit.l0 k l rel (rel.length : Int) (x : Int) = some (if ((l.drop x).zip (rel.drop x)).all (fun y => spc y.1.f1 none y.2) = true then 0 else 2) := by
  intro n
  induction n with
  | zero =>
    intro x k hx hk
    obtain ⟨k, rfl⟩ : ∃ m, k = m + 1 := ⟨k - 1, by omega⟩
    simp only [ceiling_admit.l0]
    rw [if_neg (by omega), List.drop_of_length_le (by omega), List.drop_of_length_le (by omega)]
    rfl
  | succ n ih =>
    intro x k hx hk
    have hxl : x < rel.length := by omega
    obtain ⟨h2, _⟩ := hr rel[x] (List.getElem_mem _)
    obtain ⟨k, rfl⟩ : ∃ m, k = (m + (rel[x].length + 1)) + 1 := ⟨k - rel[x].length - 2, by omega⟩
    have a := admit_l1 hl he hr x hxl rel[x].length 0 k (by omega) (fun j hj => absurd hj (by omega))
    rw [show ((0 : Nat) : Int) = 0 from rfl] at a
    generalize k + (rel[x].length + 1) = q at a ⊢
    simp only [ceiling_admit.l0]
    rw [if_pos (by omega), if_pos (by omega), if_pos (by omega), rdL5_at rel x hxl, a, List.drop_zero, show prevAt rel[x] 0 = none from rfl, spcAll_drop hl he hr x hxl]
    have b := ih (x + 1) k (by omega) (by omega)
    rw [show ((x + 1 : Nat) : Int) = (x : Int) + 1 by omega] at b
    cases hs : spc (rd_T49 l (x : Int)).f1 none rel[x] with
    | true => rw [if_pos rfl, b, Bool.true_and]
    | false => rw [if_neg (by simp), Bool.false_and, if_neg (by simp)]
end
/-- What Simulate's arguments are answered. -/
def admV (l : List S49) (rel : List (List Int)) (a : Int) : Int := if vld l = true ∧ rel.length = l.length then (if 0 ≤ a ∧ a ≤ 100000 then (if spcAll l rel = true then 0 else 2) else 2) else 1
theorem admit_j0 {k : Nat} (hk : 1 ≤ k) (l : List S49) (rel : List (List Int)) (a : Int) : ceiling_admit.j0 k l rel a true = some 1 := by
  obtain ⟨k, rfl⟩ : ∃ m, k = m + 1 := ⟨k - 1, by omega⟩
  simp only [ceiling_admit.j0]
  rw [if_pos trivial]
theorem admit_eq {k : Nat} (hk : 41000 ≤ k) {l : List S49} {rel : List (List Int)} {a : Int} (hr : ∀ r ∈ rel, r.length ≤ 2000 ∧ W64 r) : ceiling_admit.f k l rel a = some (admV l rel a) := by
  unfold ceiling_admit.f admV
  rw [cvalid_eq (by omega)]
  simp only [Option.bind_some]
  by_cases hv : vld l = true
  · rw [if_pos hv]
    by_cases he : rel.length = l.length
    · have h20 := (vld_of hv).1
      rw [if_pos ⟨hv, he⟩, show ((rel.length : Int) != (l.length : Int)) = false by rw [he]; simp]
      obtain ⟨k, rfl⟩ : ∃ m, k = m + 1 := ⟨k - 1, by omega⟩
      simp only [ceiling_admit.j0]
      rw [if_neg (by simp), between_eq]
      simp only [Option.bind_some]
      by_cases ha : 0 ≤ a ∧ a ≤ 100000
      · rw [decide_eq_true ha, if_pos rfl, if_pos ha]
        have := admit_l0 (l := l) (by omega) he hr rel.length 0 k (by omega) (by omega)
        rw [show ((0 : Nat) : Int) = 0 from rfl, List.drop_zero, List.drop_zero] at this
        exact this
      · rw [decide_eq_false ha, if_neg (by simp), if_neg ha]
    · rw [if_neg (fun h => he h.2), show ((rel.length : Int) != (l.length : Int)) = true by simp; omega]
      exact admit_j0 (by omega) l rel a
  · rw [if_neg hv, if_neg (fun h => hv h.1)]
    exact admit_j0 (by omega) l rel a
/-- What Simulate answers. -/
theorem sim_eq {k : Nat} (hk : 41000 ≤ k) {l : List S49} {rel : List (List Int)} {a : Int} (hr : ∀ r ∈ rel, r.length ≤ 2000 ∧ W64 r) :
    ceiling_Simulate.f k l rel a = some (if admV l rel a = 0 then simV l rel a else [], admV l rel a) := by
  unfold ceiling_Simulate.f
  rw [admit_eq hk hr]
  simp only [Option.bind_some]
  by_cases h0 : admV l rel a = 0
  · have hok : simOk l rel a = true := by
      unfold admV at h0
      by_cases h1 : vld l = true ∧ rel.length = l.length
      · rw [if_pos h1] at h0
        by_cases h2 : 0 ≤ a ∧ a ≤ 100000
        · unfold simOk
          rw [h1.1, decide_eq_true ⟨h1.2, h2.1, h2.2⟩, Bool.true_and, Bool.true_and]
          exact List.all_eq_true.2 fun r hr' => decide_eq_true (hr r hr').1
        · rw [if_neg h2] at h0
          exact absurd h0 (by decide)
      · rw [if_neg h1] at h0
        exact absurd h0 (by decide)
    rw [if_pos h0, if_pos hok, if_pos h0, h0]
  · rw [if_neg h0, if_neg h0]
end Go.Proofs.Ytcmifojplgmgkaa.CEv
