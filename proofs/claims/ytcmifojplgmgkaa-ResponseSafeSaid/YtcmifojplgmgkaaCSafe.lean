/- A job of a task that is not late does not wait longer than its response time. -/
import Derived.Test.YtcmifojplgmgkaaCBusy
set_option linter.unusedVariables false
set_option linter.unusedSectionVars false
namespace Go.Proofs.Ytcmifojplgmgkaa.CEv
open Go.RowKit Go.Proofs.Ytcmifojplgmgkaa.P Go.Proofs.YtcmifojplgmgkaaW.PrintWords Go.Proofs.YtcmifojplgmgkaaW.PrintMore Evs
theorem due_fresh {ts : List Int} {s b x : Int} (hp : ts.Pairwise (fun x y => x < y)) (hx : x ∈ dueL b (ts.drop (dueL (s - 1) ts).length)) : s ≤ x := by
  have hx2 := (mem_due hx).2
  cases hts : ts.drop (dueL (s - 1) ts).length with
  | nil => rw [hts] at hx2; cases hx2
  | cons y r =>
    have hy : s ≤ y := by
      rcases Int.lt_or_le y s with c | c
      · exfalso
        have h2 : dueL (s - 1) ts = dueL (s - 1) ts ++ dueL (s - 1) (ts.drop (dueL (s - 1) ts).length) := due_more (Int.le_refl _) ts
        rw [hts] at h2
        have h3 : dueL (s - 1) (y :: r) ≠ [] := by
          unfold dueL
          rw [List.takeWhile_cons_of_pos (by simp; omega)]
          simp
        have h4 := congrArg List.length h2
        rw [List.length_append] at h4
        exact h3 (List.eq_nil_of_length_eq_zero (by omega))
      · exact c
    rw [hts] at hx2
    rcases List.mem_cons.1 hx2 with rfl | hx2
    · exact hy
    · have hp2 : (y :: r).Pairwise (fun x y => x < y) := by rw [← hts]; exact hp.sublist (List.drop_sublist _ _)
      have := (List.pairwise_cons.1 hp2).1 x hx2
      omega
theorem newFrom_due {now : Int} {nx : List Nat} : ∀ {i : Nat} {r : List (List Int)} {q : PJ}, q ∈ newFrom now nx i r → ∃ (j : Nat) (h : j < r.length), q.task = ((i + j : Nat) : Int) ∧ q.rel ∈ dueL now (r[j].drop (nx.getD (i + j) 0))
  | i, [], q, h => by cases h
  | i, t :: r, q, h => by
    unfold newFrom at h
    rcases List.mem_append.1 h with h | h
    · obtain ⟨y, hy, rfl⟩ := List.mem_map.1 h
      exact ⟨0, by simp, rfl, hy⟩
    · obtain ⟨j, hj, h1, h2⟩ := newFrom_due h
      refine ⟨j + 1, by simpa using hj, ?_, ?_⟩
      · rw [h1]; congr 1; omega
      · rw [show i + (j + 1) = i + 1 + j by omega]; exact h2
section
variable {l : List S49} {rel : List (List Int)} (hA : Adm l rel)
include hA
theorem new_rel {t : Int} {s : Sim} (h : Inv l rel t s) {q : PJ} (hq : q ∈ newFrom t s.nx 0 rel) : t ≤ q.rel := by
  obtain ⟨j, hj, _, h2⟩ := newFrom_due hq
  rw [Nat.zero_add, h.nxe j hj] at h2
  exact due_fresh (hA.incr j hj) h2
omit hA in
/-- What waits behind a unit has waited ahead of it, or is new. -/
theorem wt_back {t : Int} {s : Sim} {p : PJ} (hp : p ∈ (stepV l rel t s).wt) : ∃ q ∈ s.wt ++ newFrom t s.nx 0 rel, q.task = p.task ∧ q.rel = p.rel := by
  rcases step_cases l rel t s with ⟨hw, hs⟩ | ⟨pre, b, post, hw, hm, ⟨_, hs⟩ | ⟨_, hs⟩⟩
  · rw [hs] at hp; cases hp
  · rw [hs] at hp
    rw [hw]
    rcases List.mem_append.1 hp with hp | hp
    · obtain ⟨y, hy, rfl⟩ := List.mem_map.1 hp
      obtain ⟨_, _, e3, e4, _⟩ := r_hinder (l := l) b.task y
      exact ⟨y, List.mem_append_left _ hy, e3.symm, e4.symm⟩
    · obtain ⟨y, hy, rfl⟩ := List.mem_map.1 hp
      obtain ⟨_, _, e3, e4, _⟩ := r_hinder (l := l) b.task y
      exact ⟨y, List.mem_append_right _ (List.mem_cons_of_mem _ hy), e3.symm, e4.symm⟩
  · rw [hs] at hp
    rw [hw]
    rcases List.mem_append.1 hp with hp | hp
    · obtain ⟨y, hy, rfl⟩ := List.mem_map.1 hp
      obtain ⟨_, _, e3, e4, _⟩ := r_hinder (l := l) b.task y
      exact ⟨y, List.mem_append_left _ hy, e3.symm, e4.symm⟩
    · rcases List.mem_cons.1 hp with rfl | hp
      · exact ⟨b, by simp, rfl, rfl⟩
      · obtain ⟨y, hy, rfl⟩ := List.mem_map.1 hp
        obtain ⟨_, _, e3, e4, _⟩ := r_hinder (l := l) b.task y
        exact ⟨y, List.mem_append_right _ (List.mem_cons_of_mem _ hy), e3.symm, e4.symm⟩
def waits (l : List S49) (rel : List (List Int)) (t : Nat) (i x : Int) : Prop := ∃ p ∈ (stAt l rel t).wt, p.task = i ∧ p.rel = x
def idle (l : List S49) (rel : List (List Int)) (i : Int) (t : Nat) : Prop := ∀ p ∈ (stAt l rel t).wt, ¬ p.task ≤ i
theorem waits_back {t : Nat} {i x : Int} (h : waits l rel (t + 1) i x) : (∃ q ∈ (stAt l rel t).wt ++ newFrom (t : Int) (stAt l rel t).nx 0 rel, q.task = i ∧ q.rel = x) ∧ (x < t → waits l rel t i x) := by
  obtain ⟨p, hp, h1, h2⟩ := h
  obtain ⟨q, hq, e1, e2⟩ := wt_back (l := l) (rel := rel) (t := (t : Int)) (s := stAt l rel t) hp
  refine ⟨⟨q, hq, by omega, by omega⟩, fun hx => ?_⟩
  rcases List.mem_append.1 hq with hq | hq
  · exact ⟨q, hq, by omega, by omega⟩
  · have := new_rel hA (inv_at hA t) hq
    omega
theorem waits_all {i x : Int} {X : Nat} (hX : x = X) : ∀ (n : Nat), waits l rel (X + 1 + n) i x → ∀ τ, X < τ → τ ≤ X + 1 + n → waits l rel τ i x
  | 0, h, τ, h1, h2 => by
    have : τ = X + 1 + 0 := by omega
    rw [this]; exact h
  | n + 1, h, τ, h1, h2 => by
    by_cases c : τ = X + 1 + (n + 1)
    · rw [c]; exact h
    · exact waits_all hX n ((waits_back hA (t := X + 1 + n) h).2 (by omega)) τ h1 (by omega)
omit hA in
theorem last_idle (i : Int) : ∀ X : Nat, ∃ s0, s0 ≤ X ∧ idle l rel i s0 ∧ ∀ τ, s0 < τ → τ ≤ X → ¬ idle l rel i τ
  | 0 => ⟨0, Nat.le_refl _, fun p hp => (by cases hp), fun τ h1 h2 => absurd h1 (by omega)⟩
  | X + 1 => by
    by_cases c : idle l rel i (X + 1)
    · exact ⟨X + 1, Nat.le_refl _, c, fun τ h1 h2 => absurd h1 (by omega)⟩
    · obtain ⟨s0, h1, h2, h3⟩ := last_idle i X
      refine ⟨s0, by omega, h2, fun τ g1 g2 => ?_⟩
      by_cases e : τ = X + 1
      · rw [e]; exact c
      · exact h3 τ g1 (by omega)
theorem busy_all {i : Nat} (hi : i < l.length) {s0 : Nat} (h0 : idle l rel (i : Int) s0) : ∀ n : Nat, (∀ τ, s0 ≤ τ → τ < s0 + n → ∃ q ∈ (stAt l rel τ).wt ++ newFrom (τ : Int) (stAt l rel τ).nx 0 rel, q.task ≤ (i : Int)) →
    ∃ K, Busy l (i : Int) (stAt l rel (s0 + n)).wt (n : Int) (workFrom l (i : Int) ((s0 : Int) + n) 0 rel - workFrom l (i : Int) (s0 : Int) 0 rel) K
  | 0, _ => by
    refine ⟨0, ?_, block_nonneg _ _, fun p hp h1 h2 s hs => ?_⟩
    · have := rem_zero (l := l) h0
      rw [Nat.add_zero, this]
      simp
    · have hc := List.find?_some hs
      rw [Bool.and_eq_true] at hc
      have := of_decide_eq_true hc.1
      omega
  | n + 1, hq => by
    obtain ⟨K, hK⟩ := busy_all hi h0 n (fun τ h1 h2 => hq τ h1 (by omega))
    have hI := inv_at hA (s0 + n)
    obtain ⟨K', hK'⟩ := busy_step hA (i := (i : Int)) (by omega) hI (blk_at hA (s0 + n)).1 (by omega) hK (hq (s0 + n) (by omega) (by omega))
    refine ⟨K', ?_⟩
    have hw := work_step (l := l) (i := (i : Int)) (t := ((s0 + n : Nat) : Int)) (nx := (stAt l rel (s0 + n)).nx) 0 rel (fun q h => by rw [Nat.zero_add]; exact hI.nxe q h)
    have e1 : ((s0 + n : Nat) : Int) = (s0 : Int) + n := by omega
    have e2 : ((n + 1 : Nat) : Int) = (n : Int) + 1 := by omega
    rw [e1] at hw hK'
    rw [e2, show (s0 : Int) + ((n : Int) + 1) = (s0 : Int) + n + 1 by omega, hw, show workFrom l (i : Int) ((s0 : Int) + n) 0 rel + rem l (i : Int) (newFrom ((s0 : Int) + n) (stAt l rel (s0 + n)).nx 0 rel) - workFrom l (i : Int) (s0 : Int) 0 rel = workFrom l (i : Int) ((s0 : Int) + n) 0 rel - workFrom l (i : Int) (s0 : Int) 0 rel + rem l (i : Int) (newFrom ((s0 : Int) + n) (stAt l rel (s0 + n)).nx 0 rel) by omega]
    have e3 : stAt l rel (s0 + (n + 1)) = stepV l rel ((s0 : Int) + n) (stAt l rel (s0 + n)) := by
      rw [← e1]; rfl
    rw [e3]
    exact hK'
/-- The analysis is safe. -/
theorem safe {i : Nat} (hi : i < l.length) {r : Nat} (hr1 : 1 ≤ r) (hr2 : (r : Int) ≤ (rd_T49 l (i : Int)).f2) (hfix : nextV l (i : Int) r = r) {x : Int} {X : Nat} (hX : x = X) : ¬ waits l rel (X + r) (i : Int) x := by
  intro hw
  obtain ⟨_, _, hc3, _, _, hc6, _⟩ := vldT_of (hA.task (i := (i : Int)) (by omega) (by omega))
  have hall := waits_all hA hX (r - 1) (i := (i : Int)) (by rw [show X + 1 + (r - 1) = X + r by omega]; exact hw)
  obtain ⟨s0, g1, g2, g3⟩ := last_idle (l := l) (rel := rel) (i : Int) X
  have hbusy : ∀ τ, s0 ≤ τ → τ < s0 + r → ∃ q ∈ (stAt l rel τ).wt ++ newFrom (τ : Int) (stAt l rel τ).nx 0 rel, q.task ≤ (i : Int) := fun τ h1 h2 => by
    rcases Nat.lt_or_ge τ X with c | c
    · by_cases e : τ = s0
      · subst e
        have hni := g3 (τ + 1) (by omega) (by omega)
        have : ∃ p ∈ (stAt l rel (τ + 1)).wt, p.task ≤ (i : Int) := Classical.byContradiction fun hn => hni fun p hp hle => hn ⟨p, hp, hle⟩
        obtain ⟨p, hp, hle⟩ := this
        obtain ⟨q, hq, e1, e2⟩ := wt_back (l := l) (rel := rel) (t := (τ : Int)) (s := stAt l rel τ) hp
        exact ⟨q, hq, by omega⟩
      · have hni := g3 τ (by omega) (by omega)
        have : ∃ p ∈ (stAt l rel τ).wt, p.task ≤ (i : Int) := Classical.byContradiction fun hn => hni fun p hp hle => hn ⟨p, hp, hle⟩
        obtain ⟨p, hp, hle⟩ := this
        exact ⟨p, List.mem_append_left _ hp, hle⟩
    · obtain ⟨q, hq, e1, _⟩ := (waits_back hA (t := τ) (hall (τ + 1) (by omega) (by omega))).1
      exact ⟨q, hq, by omega⟩
  obtain ⟨K, hK⟩ := busy_all hA hi g2 r hbusy
  have hwin := work_window hA hi (s := (s0 : Int)) (r := (r : Int)) (by omega) (by omega) rel.length 0 (by omega)
  rw [List.drop_zero, List.drop_zero, if_pos (Nat.zero_le _), Nat.sub_zero] at hwin
  have hle := hK.le
  have hk := hK.k
  unfold nextV ownV interf at hfix
  rw [Int.toNat_natCast] at hfix
  have hrem := rem_nonneg (l := l) (i := (i : Int)) (W := (stAt l rel (s0 + r)).wt) (fun p hp => (inv_at hA (s0 + r)).job p hp)
  have hidle : idle l rel (i : Int) (s0 + r) := fun p hp hle' => by
    have := hrem.2 p hp hle'
    omega
  rcases Nat.lt_or_ge X (s0 + r) with c | c
  · obtain ⟨p, hp, h1, _⟩ := hall (s0 + r) c (by omega)
    exact hidle p hp (by omega)
  · exact g3 (s0 + r) (by omega) c hidle
end
end Go.Proofs.Ytcmifojplgmgkaa.CEv
