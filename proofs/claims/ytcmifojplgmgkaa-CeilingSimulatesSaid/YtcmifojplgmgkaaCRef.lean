/- The reference's validity and spacing, and what the statements about ceilings consider. -/
import Derived.Test.YtcmifojplgmgkaaP31
import Derived.Test.YtcmifojplgmgkaaP29
import Derived.Test.YtcmifojplgmgkaaP30
import Derived.Test.YtcmifojplgmgkaaCAdm
import Derived.DataShut
set_option linter.unusedVariables false
set_option linter.unusedSectionVars false
namespace Go.Proofs.Ytcmifojplgmgkaa.CEv
open Go.RowKit Go.Proofs.Ytcmifojplgmgkaa.P Go.Proofs.YtcmifojplgmgkaaW.PrintWords Go.Proofs.YtcmifojplgmgkaaW.PrintMore
set_option maxRecDepth 1000000 in
theorem cawake_at : ontimelaw43_awake.f 41000 = some true := by
  have h := sim_eq (k := 41000) (Nat.le_refl _) (l := [(⟨1, 9, 9, [⟨5, 0, 1⟩]⟩ : S49), (⟨4, 9, 9, [⟨5, 1, 3⟩]⟩ : S49)]) (rel := [[2], [0]]) (a := 9) (by
    intro r hr
    rcases List.mem_cons.1 hr with rfl | hr
    · exact ⟨by decide, fun x hx => by rw [List.mem_singleton.1 hx]; omega⟩
    · rw [List.mem_singleton.1 hr]
      exact ⟨by decide, fun x hx => by rw [List.mem_singleton.1 hx]; omega⟩)
  have ha : admV [(⟨1, 9, 9, [⟨5, 0, 1⟩]⟩ : S49), (⟨4, 9, 9, [⟨5, 1, 3⟩]⟩ : S49)] [[2], [0]] 9 = 0 := by decide +kernel
  have hj : (simV [(⟨1, 9, 9, [⟨5, 0, 1⟩]⟩ : S49), (⟨4, 9, 9, [⟨5, 1, 3⟩]⟩ : S49)] [[2], [0]] 9).map (fun j => (j.f0, j.f1, j.f2, j.f3, j.f4)) = [(0, 2, 3, 4, 1), (1, 0, 0, 5, 0)] := by decide +kernel
  have hj2 : simV [(⟨1, 9, 9, [⟨5, 0, 1⟩]⟩ : S49), (⟨4, 9, 9, [⟨5, 1, 3⟩]⟩ : S49)] [[2], [0]] 9 = [(⟨0, 2, 3, 4, 1⟩ : S34), (⟨1, 0, 0, 5, 0⟩ : S34)] := by
    have inj : ∀ (a b : List S34), a.map (fun j => (j.f0, j.f1, j.f2, j.f3, j.f4)) = b.map (fun j => (j.f0, j.f1, j.f2, j.f3, j.f4)) → a = b := by
      intro a
      induction a with
      | nil => intro b h; cases b with
        | nil => rfl
        | cons x r => cases h
      | cons x r ih => intro b h; cases b with
        | nil => cases h
        | cons y s =>
          rw [List.map_cons, List.map_cons] at h
          injection h with h1 h2
          rw [ih s h2]
          cases x; cases y
          simp only [Prod.mk.injEq] at h1
          obtain ⟨rfl, rfl, rfl, rfl, rfl⟩ := h1
          rfl
    exact inj _ _ hj
  rw [if_pos ha, ha, hj2] at h
  unfold ontimelaw43_awake.f
  rw [h]
  simp only [Option.bind_some]
  rw [if_pos trivial]
  have e : ceiling_Job.f 10 [(⟨0, 2, 3, 4, 1⟩ : S34), (⟨1, 0, 0, 5, 0⟩ : S34)] [(⟨0, 2, 3, 4, 1⟩ : S34), (⟨1, 0, 0, 5, 0⟩ : S34)] = some true := by decide +kernel
  rw [at_rounds (ceiling_Job.mono _ _) (by omega) e]
  rfl
theorem cawake_eq {k : Nat} (hk : 41000 ≤ k) : ontimelaw43_awake.f k = some true := at_rounds ontimelaw43_awake.mono hk cawake_at
/-! The reference's tasks -/
def to94 (s : S68) : S94 := ⟨s.f0, s.f1, s.f2⟩
def to93 (t : S49) : S93 := ⟨t.f0, t.f1, t.f2, t.f3.map to94⟩
theorem rd93_at (l : List S93) (i : Nat) (h : i < l.length) : rd_T93 l (i : Int) = l[i] := by
  unfold rd_T93
  rw [Int.toNat_natCast, List.getD_eq_getElem?_getD, List.getElem?_eq_getElem h]
  rfl
theorem rd94_at (l : List S94) (i : Nat) (h : i < l.length) : rd_T94 l (i : Int) = l[i] := by
  unfold rd_T94
  rw [Int.toNat_natCast, List.getD_eq_getElem?_getD, List.getElem?_eq_getElem h]
  rfl
theorem cplain_l1 (x3 : List S93) (x9 : List S49) (x10 x11 c0 c1 c2 : Int) (h3 : x3.length ≤ 1000) (ss : List S68) (h10 : ss.length ≤ 16) : ∀ (n i k : Nat) (acc : List S94), i + n = ss.length → acc.length = i →
    ontimelaw43_plain.l1 (k + (n + 1)) x3 x9 x10 x11 ss (ss.length : Int) (i : Int) c0 c1 c2 acc = ontimelaw43_plain.l0 k (x3 ++ [⟨c0, c1, c2, acc ++ (ss.drop i).map to94⟩]) x9 x10 (wrap64 (x11 + 1)) := by
  intro n
  induction n with
  | zero =>
    intro i k acc hi ha
    simp only [ontimelaw43_plain.l1]
    rw [if_neg (by omega), if_pos (by omega), List.drop_of_length_le (by omega)]
    simp
  | succ n ih =>
    intro i k acc hi ha
    have hil : i < ss.length := by omega
    have := ih (i + 1) k (acc ++ [to94 ss[i]]) (by omega) (by simp [ha])
    rw [show ((i + 1 : Nat) : Int) = (i : Int) + 1 by omega] at this
    rw [show k + (n + 1 + 1) = (k + (n + 1)) + 1 by omega]
    generalize k + (n + 1) = q at this ⊢
    simp only [ontimelaw43_plain.l1]
    rw [if_pos (by omega), if_pos (by omega), if_pos (by omega), if_pos (by omega), rd68_at ss i hil, wrap64_of (x := (i : Int) + 1) (by omega) (by omega), List.drop_eq_getElem_cons hil]
    rw [show (⟨ss[i].f0, ss[i].f1, ss[i].f2⟩ : S94) = to94 ss[i] from rfl, this, List.append_assoc]
    rfl
theorem cplain_l0 (l : List S49) (h20 : l.length ≤ 40) (h10 : ∀ t ∈ l, t.f3.length ≤ 16) : ∀ (n i k : Nat) (acc : List S93), i + n = l.length → acc.length = i → 18 * n + 1 ≤ k →
    ontimelaw43_plain.l0 k acc l (l.length : Int) (i : Int) = some (acc ++ (l.drop i).map to93) := by
  intro n
  induction n with
  | zero =>
    intro i k acc hi ha hk
    obtain ⟨k, rfl⟩ : ∃ m, k = m + 1 := ⟨k - 1, by omega⟩
    simp only [ontimelaw43_plain.l0]
    rw [if_neg (by omega), List.drop_of_length_le (by omega)]
    simp
  | succ n ih =>
    intro i k acc hi ha hk
    have hil : i < l.length := by omega
    have h := h10 l[i] (List.getElem_mem _)
    obtain ⟨k, rfl⟩ : ∃ m, k = (m + (l[i].f3.length + 1)) + 1 := ⟨k - l[i].f3.length - 2, by omega⟩
    have a := cplain_l1 acc l (l.length : Int) (i : Int) l[i].f0 l[i].f1 l[i].f2 (by omega) l[i].f3 h l[i].f3.length 0 k [] (by omega) rfl
    rw [show ((0 : Nat) : Int) = 0 from rfl] at a
    generalize k + (l[i].f3.length + 1) = q at a ⊢
    simp only [ontimelaw43_plain.l0]
    rw [if_pos (by omega), if_pos (by omega), if_pos (by omega), rd49_at l i hil]
    rw [a, wrap64_of (x := (i : Int) + 1) (by omega) (by omega), List.drop_zero, List.nil_append, List.drop_eq_getElem_cons hil]
    have b := ih (i + 1) k (acc ++ [to93 l[i]]) (by omega) (by simp [ha]) (by omega)
    rw [show ((i + 1 : Nat) : Int) = (i : Int) + 1 by omega] at b
    rw [show (⟨l[i].f0, l[i].f1, l[i].f2, l[i].f3.map to94⟩ : S93) = to93 l[i] from rfl, b, List.append_assoc]
    rfl
theorem cplain_eq {k : Nat} (hk : 800 ≤ k) {l : List S49} (h20 : l.length ≤ 40) (h10 : ∀ t ∈ l, t.f3.length ≤ 16) : ontimelaw43_plain.f k l = some (l.map to93) := by
  unfold ontimelaw43_plain.f
  have := cplain_l0 l h20 h10 l.length 0 k [] (by omega) rfl (by omega)
  rw [show ((0 : Nat) : Int) = 0 from rfl] at this
  rw [this]
  simp
/-! The reference's spacing -/
section
variable {l : List S49} {rel : List (List Int)} (hl : l.length ≤ 40) (he : rel.length = l.length) (hr : ∀ r ∈ rel, r.length ≤ 2000 ∧ W64 r)
include hl he hr
theorem spaced_l1 (x : Nat) (hx : x < rel.length) : ∀ (n i k : Nat), i + n = rel[x].length → (∀ j, j < i → ∀ h : j < rel[x].length, 0 ≤ rel[x][j]) →
    ontimeref43_Spaced.l1 (k + (n + 1)) (l.map to93) rel (x : Int) (i : Int) = if spc (rd_T49 l (x : Int)).f1 (prevAt rel[x] i) (rel[x].drop i) = true then ontimeref43_Spaced.l0 k (l.map to93) rel ((x : Int) + 1) else some false := by
  obtain ⟨h2, hw⟩ := hr rel[x] (List.getElem_mem _)
  intro n
  induction n with
  | zero =>
    intro i k hi hpos
    simp only [ontimeref43_Spaced.l1]
    rw [if_pos (by omega), if_pos (by omega), rdL5_at rel x hx, if_neg (by omega), List.drop_of_length_le (by omega)]
    have : ∀ o, spc (rd_T49 l (x : Int)).f1 o [] = true := fun o => by cases o <;> rfl
    rw [this, if_pos rfl, wrap64_of (x := (x : Int) + 1) (by omega) (by omega)]
  | succ n ih =>
    intro i k hi hpos
    have hil : i < rel[x].length := by omega
    have := ih (i + 1) k (by omega)
    rw [show ((i + 1 : Nat) : Int) = (i : Int) + 1 by omega] at this
    rw [show k + (n + 1 + 1) = (k + (n + 1)) + 1 by omega]
    generalize k + (n + 1) = q at this ⊢
    simp only [ontimeref43_Spaced.l1]
    rw [if_pos (by omega), if_pos (by omega), rdL5_at rel x hx, if_pos (by omega), if_pos (by omega), rdI_at _ i hil, spc_at _ _ i hil]
    by_cases h0 : rel[x][i] < 0
    · rw [if_pos h0, decide_eq_false (by omega), Bool.false_and, if_neg (by simp)]
    · rw [if_neg h0, decide_eq_true (show 0 ≤ rel[x][i] by omega), Bool.true_and]
      have hnext := this (fun j hj h => by
        by_cases e : j = i
        · subst e; omega
        · exact hpos j (by omega) h)
      rw [wrap64_of (x := (i : Int) + 1) (by omega) (by omega)]
      by_cases hi0 : i = 0
      · subst hi0
        rw [if_neg (by omega), if_pos rfl, Bool.true_and]
        exact hnext
      · have hj : i - 1 < rel[x].length := by omega
        have e1 : wrap64 ((i : Int) - 1) = ((i - 1 : Nat) : Int) := by rw [wrap64_of (by omega) (by omega)]; omega
        have b1 := hw rel[x][i] (List.getElem_mem _)
        have b2 := hw rel[x][i - 1] (List.getElem_mem _)
        have b3 := hpos (i - 1) (by omega) hj
        have e2 : (rd_T93 (l.map to93) (x : Int)).f1 = (rd_T49 l (x : Int)).f1 := by
          rw [rd93_at _ x (by rw [List.length_map]; omega), List.getElem_map, rd49_at l x (by omega)]
          rfl
        rw [if_pos (by omega), e1, if_pos (by omega), if_pos (by omega), if_pos (by rw [List.length_map]; omega), rdI_at _ _ hj, wrap64_of (x := rel[x][i] - rel[x][i - 1]) (by omega) (by omega), if_neg hi0, List.getD_eq_getElem?_getD, List.getElem?_eq_getElem hj, e2]
        by_cases h1 : rel[x][i] - rel[x][i - 1] < (rd_T49 l (x : Int)).f1
        · rw [if_pos h1, decide_eq_false (show ¬ (rd_T49 l (x : Int)).f1 ≤ rel[x][i] - (some rel[x][i - 1]).getD 0 by show ¬ _ ≤ rel[x][i] - rel[x][i - 1]; omega), Bool.false_and, if_neg (by simp)]
        · rw [if_neg h1, decide_eq_true (show (rd_T49 l (x : Int)).f1 ≤ rel[x][i] - (some rel[x][i - 1]).getD 0 by show _ ≤ rel[x][i] - rel[x][i - 1]; omega), Bool.true_and]
          exact hnext
theorem spaced_l0 : ∀ (n x k : Nat), x + n = rel.length → 2002 * n + 1 ≤ k →
    ontimeref43_Spaced.l0 k (l.map to93) rel (x : Int) = some (((l.drop x).zip (rel.drop x)).all (fun y => spc y.1.f1 none y.2)) := by
  intro n
  induction n with
  | zero =>
    intro x k hx hk
    obtain ⟨k, rfl⟩ : ∃ m, k = m + 1 := ⟨k - 1, by omega⟩
    simp only [ontimeref43_Spaced.l0]
    rw [if_neg (by rw [List.length_map]; omega), List.drop_of_length_le (by omega), List.drop_of_length_le (by omega)]
    rfl
  | succ n ih =>
    intro x k hx hk
    have hxl : x < rel.length := by omega
    obtain ⟨h2, _⟩ := hr rel[x] (List.getElem_mem _)
    obtain ⟨k, rfl⟩ : ∃ m, k = (m + (rel[x].length + 1)) + 1 := ⟨k - rel[x].length - 2, by omega⟩
    have a := spaced_l1 hl he hr x hxl rel[x].length 0 k (by omega) (fun j hj => absurd hj (by omega))
    rw [show ((0 : Nat) : Int) = 0 from rfl] at a
    generalize k + (rel[x].length + 1) = q at a ⊢
    simp only [ontimeref43_Spaced.l0]
    rw [if_pos (by rw [List.length_map]; omega), a, List.drop_zero, show prevAt rel[x] 0 = none from rfl, spcAll_drop hl he hr x hxl]
    have b := ih (x + 1) k (by omega) (by omega)
    rw [show ((x + 1 : Nat) : Int) = (x : Int) + 1 by omega] at b
    cases hs : spc (rd_T49 l (x : Int)).f1 none rel[x] with
    | true => rw [if_pos rfl, b, Bool.true_and]
    | false => rw [if_neg (by simp), Bool.false_and]
theorem spaced_eq {k : Nat} (hk : 81000 ≤ k) : ontimeref43_Spaced.f k (l.map to93) rel = some (spcAll l rel) := by
  unfold ontimeref43_Spaced.f spcAll
  have := spaced_l0 hl he hr rel.length 0 k (by omega) (by omega)
  rw [show ((0 : Nat) : Int) = 0 from rfl, List.drop_zero, List.drop_zero] at this
  exact this
end
/-! Few -/
def fewV (l : List S49) (rel : List (List Int)) (a : Int) : Bool := decide (l.length ≤ 6 ∧ rel.length ≤ 12 ∧ a ≤ 300) && (l.all (fun t => decide (t.f3.length ≤ 16)) && rel.all fun r => decide (r.length ≤ 12))
theorem few_l1 (rel : List (List Int)) (h : rel.length ≤ 12) : ∀ (n i k : Nat), i + n = rel.length → n + 1 ≤ k → ontimelaw43_few.l1 k rel (rel.length : Int) (i : Int) = some ((rel.drop i).all fun r => decide (r.length ≤ 12)) := by
  intro n
  induction n with
  | zero =>
    intro i k hi hk
    obtain ⟨k, rfl⟩ : ∃ m, k = m + 1 := ⟨k - 1, by omega⟩
    simp only [ontimelaw43_few.l1]
    rw [if_neg (by omega), List.drop_of_length_le (by omega)]
    rfl
  | succ n ih =>
    intro i k hi hk
    obtain ⟨k, rfl⟩ : ∃ m, k = m + 1 := ⟨k - 1, by omega⟩
    have hil : i < rel.length := by omega
    simp only [ontimelaw43_few.l1]
    rw [if_pos (by omega), if_pos (by omega), if_pos (by omega), rdL5_at rel i hil, List.drop_eq_getElem_cons hil, List.all_cons]
    by_cases hc : (rel[i].length : Int) > 12
    · rw [if_pos hc, decide_eq_false (by omega), Bool.false_and]
    · rw [if_neg hc, decide_eq_true (by omega), Bool.true_and, wrap64_of (x := (i : Int) + 1) (by omega) (by omega)]
      exact ih (i + 1) k (by omega) (by omega)
theorem few_l0 (l : List S49) (rel : List (List Int)) (h : rel.length ≤ 12) (hl : l.length ≤ 6) : ∀ (n i k : Nat), i + n = l.length → n + 15 ≤ k →
    ontimelaw43_few.l0 k rel l (l.length : Int) (i : Int) = some ((l.drop i).all (fun t => decide (t.f3.length ≤ 16)) && rel.all fun r => decide (r.length ≤ 12)) := by
  intro n
  induction n with
  | zero =>
    intro i k hi hk
    obtain ⟨k, rfl⟩ : ∃ m, k = m + 1 := ⟨k - 1, by omega⟩
    simp only [ontimelaw43_few.l0]
    rw [if_neg (by omega), List.drop_of_length_le (by omega)]
    have := few_l1 rel h rel.length 0 k (by omega) (by omega)
    rw [show ((0 : Nat) : Int) = 0 from rfl, List.drop_zero] at this
    rw [this]
    rfl
  | succ n ih =>
    intro i k hi hk
    obtain ⟨k, rfl⟩ : ∃ m, k = m + 1 := ⟨k - 1, by omega⟩
    have hil : i < l.length := by omega
    simp only [ontimelaw43_few.l0]
    rw [if_pos (by omega), if_pos (by omega), if_pos (by omega), rd49_at l i hil, List.drop_eq_getElem_cons hil, List.all_cons]
    by_cases hc : (l[i].f3.length : Int) > 16
    · rw [if_pos hc, decide_eq_false (by omega), Bool.false_and, Bool.false_and]
    · rw [if_neg hc, decide_eq_true (by omega), Bool.true_and, wrap64_of (x := (i : Int) + 1) (by omega) (by omega)]
      exact ih (i + 1) k (by omega) (by omega)
theorem few_j0 {k : Nat} (hk : 1 ≤ k) (l : List S49) (rel : List (List Int)) : ontimelaw43_few.j0 k l rel true = some false := by
  obtain ⟨k, rfl⟩ : ∃ m, k = m + 1 := ⟨k - 1, by omega⟩
  simp only [ontimelaw43_few.j0]
  rw [if_pos trivial]
theorem few_eq {k : Nat} (hk : 30 ≤ k) (l : List S49) (rel : List (List Int)) (a : Int) : ontimelaw43_few.f k l rel a = some (fewV l rel a) := by
  unfold ontimelaw43_few.f fewV
  by_cases h1 : (l.length : Int) > 6
  · rw [if_pos h1, few_j0 (by omega), decide_eq_false (by omega), Bool.false_and]
  · rw [if_neg h1]
    by_cases h2 : (rel.length : Int) > 12
    · rw [if_pos h2, few_j0 (by omega), decide_eq_false (by omega), Bool.false_and]
    · rw [if_neg h2]
      by_cases h3 : a > 300
      · rw [decide_eq_true h3, few_j0 (by omega), decide_eq_false (by omega), Bool.false_and]
      · rw [decide_eq_false h3, decide_eq_true (by omega), Bool.true_and]
        obtain ⟨k, rfl⟩ : ∃ m, k = m + 1 := ⟨k - 1, by omega⟩
        simp only [ontimelaw43_few.j0]
        rw [if_neg (by simp)]
        have := few_l0 l rel (by omega) (by omega) l.length 0 k (by omega) (by omega)
        rw [show ((0 : Nat) : Int) = 0 from rfl, List.drop_zero] at this
        exact this
theorem fewV_of {l : List S49} {rel : List (List Int)} {a : Int} (h : fewV l rel a = true) : l.length ≤ 6 ∧ rel.length ≤ 12 ∧ a ≤ 300 ∧ (∀ t ∈ l, t.f3.length ≤ 16) ∧ ∀ r ∈ rel, r.length ≤ 12 := by
  unfold fewV at h
  rw [Bool.and_eq_true, Bool.and_eq_true] at h
  obtain ⟨h1, h2, h3⟩ := h
  obtain ⟨h4, h5, h6⟩ := of_decide_eq_true h1
  exact ⟨h4, h5, h6, fun t ht => of_decide_eq_true (List.all_eq_true.1 h2 t ht), fun r hr => of_decide_eq_true (List.all_eq_true.1 h3 r hr)⟩
/-! Fits -/
def fitsV (l : List S49) (rel : List (List Int)) (a : Int) : Bool := fewV l rel a && (decide (0 ≤ a ∧ vld l = true ∧ rel.length = l.length) && spcAll l rel)
theorem fits_eq {k : Nat} (hk : 81000 ≤ k) {l : List S49} {rel : List (List Int)} {a : Int} (hw : ∀ r ∈ rel, W64 r) : ontimelaw43_fits.f k l rel a = some (fitsV l rel a) := by
  unfold ontimelaw43_fits.f fitsV
  rw [few_eq (by omega)]
  simp only [Option.bind_some]
  by_cases hf : fewV l rel a = true
  · obtain ⟨f1, f2, f3, f4, f5⟩ := fewV_of hf
    rw [if_pos hf, hf, Bool.true_and]
    by_cases ha : a ≥ 0
    · rw [if_pos ha, cvalid_eq (by omega)]
      simp only [Option.bind_some]
      by_cases hv : vld l = true
      · rw [if_pos hv]
        by_cases he : rel.length = l.length
        · rw [if_pos (by omega), cplain_eq (by omega) (by omega) f4]
          simp only [Option.bind_some]
          rw [spaced_eq (by omega) he (fun r hr => ⟨by have := f5 r hr; omega, hw r hr⟩) hk, decide_eq_true ⟨ha, hv, he⟩, Bool.true_and]
          rfl
        · rw [if_neg (by omega), decide_eq_false (fun h => he h.2.2), Bool.false_and]
      · rw [if_neg hv, decide_eq_false (fun h => hv h.2.1), Bool.false_and]
    · rw [if_neg ha, decide_eq_false (fun h => ha h.1), Bool.false_and]
  · rw [if_neg hf, show fewV l rel a = false by simpa using hf, Bool.false_and]
theorem fitsV_of {l : List S49} {rel : List (List Int)} {a : Int} (h : fitsV l rel a = true) : l.length ≤ 6 ∧ 0 ≤ a ∧ a ≤ 300 ∧ vld l = true ∧ rel.length = l.length ∧ spcAll l rel = true ∧ ∀ r ∈ rel, r.length ≤ 12 := by
  unfold fitsV at h
  rw [Bool.and_eq_true, Bool.and_eq_true] at h
  obtain ⟨h1, h2, h3⟩ := h
  obtain ⟨f1, f2, f3, f4, f5⟩ := fewV_of h1
  obtain ⟨a1, a2, a3⟩ := of_decide_eq_true h2
  exact ⟨f1, a1, f3, a2, a3, h3, f5⟩
theorem fits_adm {l : List S49} {rel : List (List Int)} {a : Int} (h : fitsV l rel a = true) : admV l rel a = 0 := by
  obtain ⟨f1, f2, f3, f4, f5, f6, f7⟩ := fitsV_of h
  unfold admV
  rw [if_pos ⟨f4, f5⟩, if_pos (by omega), if_pos f6]
theorem w64_of {rel : List (List Int)} (h : ∀ r ∈ rel, r.length ≤ maxLen ∧ ∀ x ∈ r, (Lit.int .i64 x).wf = true) : ∀ r ∈ rel, W64 r := fun r hr x hx => by
  have := (Lit.wf_int_iff _ _).1 ((h r hr).2 x hx)
  rwa [show IntKind.i64.min = -9223372036854775808 from by decide, show IntKind.i64.max = 9223372036854775807 from by decide] at this
theorem b64 {a : Int} (h : (Lit.int .i64 a).wf = true) : -9223372036854775808 ≤ a ∧ a ≤ 9223372036854775807 := by
  have := (Lit.wf_int_iff _ _).1 h
  rwa [show IntKind.i64.min = -9223372036854775808 from by decide, show IntKind.i64.max = 9223372036854775807 from by decide] at this
end Go.Proofs.Ytcmifojplgmgkaa.CEv
