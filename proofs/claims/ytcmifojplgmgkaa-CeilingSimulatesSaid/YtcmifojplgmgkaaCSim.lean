/- The simulation, as numbers: how a state follows another. -/
import Derived.Test.YtcmifojplgmgkaaP16
set_option linter.unusedVariables false
set_option linter.unusedSectionVars false
namespace Go.Proofs.Ytcmifojplgmgkaa.CEv
open Go.RowKit Go.Proofs.Ytcmifojplgmgkaa.P Go.Proofs.YtcmifojplgmgkaaW.PrintWords Go.Proofs.YtcmifojplgmgkaaW.PrintMore
/-- The state before a unit. -/
def stAt (l : List S49) (rel : List (List Int)) : Nat → Sim
  | 0 => ⟨List.replicate l.length 0, [], []⟩
  | t + 1 => stepV l rel (t : Int) (stAt l rel t)
theorem simGo_st (l : List S49) (rel : List (List Int)) : ∀ (n t : Nat), simGo l rel n (t : Int) (stAt l rel t) = stAt l rel (t + n)
  | 0, _ => rfl
  | n + 1, t => by
    show simGo l rel n ((t : Int) + 1) (stepV l rel (t : Int) (stAt l rel t)) = _
    rw [show (t : Int) + 1 = ((t + 1 : Nat) : Int) by omega, show t + (n + 1) = (t + 1) + n by omega]
    exact simGo_st l rel n (t + 1)
theorem simV_st (l : List S49) (rel : List (List Int)) (a : Int) : simV l rel a = (stAt l rel a.toNat).out := by
  unfold simV
  have := simGo_st l rel a.toNat 0
  rw [Nat.zero_add] at this
  rw [← this]
  rfl
/-! Which job is preferred -/
def r1 (l : List S49) (p : PJ) : Int := (rankV l p.task p.done).1
def r2 (l : List S49) (p : PJ) : Int := (rankV l p.task p.done).2
/-- A job is preferred to another one. -/
def kLt (l : List S49) (p q : PJ) : Prop := r1 l p < r1 l q ∨ (r1 l p = r1 l q ∧ (r2 l p < r2 l q ∨ (r2 l p = r2 l q ∧ (p.task < q.task ∨ (p.task = q.task ∧ p.rel < q.rel)))))
theorem cmpI_neg (a b : Int) : cmpI a b < 0 ↔ a < b := by
  unfold cmpI
  split
  · omega
  · split <;> omega
theorem cmpI_zero (a b : Int) : cmpI a b = 0 ↔ a = b := by
  unfold cmpI
  split
  · omega
  · split <;> omega
theorem ltV_iff (l : List S49) (p q : PJ) : ltV l p q = true ↔ kLt l p q := by
  unfold ltV cmpV or4 kLt
  rw [decide_eq_true_eq]
  have e1 := cmpI_zero (r1 l p) (r1 l q)
  have e2 := cmpI_zero (r2 l p) (r2 l q)
  have e3 := cmpI_zero p.task q.task
  have n1 := cmpI_neg (r1 l p) (r1 l q)
  have n2 := cmpI_neg (r2 l p) (r2 l q)
  have n3 := cmpI_neg p.task q.task
  have n4 := cmpI_neg p.rel q.rel
  unfold r1 r2 at *
  split
  · split
    · split <;> omega
    · omega
  · omega
theorem kLt_trans {l : List S49} {p q s : PJ} (h : kLt l p q) (k : kLt l q s) : kLt l p s := by unfold kLt at *; omega
theorem kLt_irrefl {l : List S49} (p : PJ) : ¬ kLt l p p := by unfold kLt; omega
theorem bsp_min {α : Type} (lt : α → α → Bool) (tr : ∀ a b c, lt a b = true → lt b c = true → lt a c = true) : ∀ (r pre : List α) (m : α) (mid : List α), (∀ y ∈ pre ++ mid, lt y m = false) → lt m m = false → (∀ y, lt y y = false) →
    ∀ y ∈ (bsp lt pre m mid r).1 ++ (bsp lt pre m mid r).2.2, lt y (bsp lt pre m mid r).2.1 = false
  | [], _, _, _, h, _, _ => h
  | y :: r, pre, m, mid, h, hm, hi => by
    unfold bsp
    by_cases c : lt y m = true
    · rw [if_pos c]
      refine bsp_min lt tr r _ _ _ (fun z hz => ?_) (hi y) hi
      rw [List.append_nil] at hz
      cases e : lt z y with
      | false => rfl
      | true =>
        have h2 := tr z y m e c
        rcases List.mem_append.1 hz with hz | hz
        · rw [h z (List.mem_append_left _ hz)] at h2; cases h2
        · rcases List.mem_cons.1 hz with rfl | hz
          · rw [hm] at h2; cases h2
          · rw [h z (List.mem_append_right _ hz)] at h2; cases h2
    · rw [if_neg c]
      refine bsp_min lt tr r _ _ _ (fun z hz => ?_) hm hi
      rw [← List.append_assoc] at hz
      rcases List.mem_append.1 hz with hz | hz
      · exact h z hz
      · rw [List.mem_singleton.1 hz]
        simpa using c
theorem ltV_false {l : List S49} {p q : PJ} (h : ltV l p q = false) : ¬ kLt l p q := fun k => by rw [(ltV_iff l p q).2 k] at h; cases h
/-! The releases -/
def dueL (now : Int) (ts : List Int) : List Int := ts.takeWhile fun x => decide (x ≤ now)
theorem relOne_eq (now i : Int) : ∀ (ts : List Int) (c : Nat) (W : List PJ), relOne now i ts c W = (c + (dueL now ts).length, W ++ (dueL now ts).map (fresh i))
  | [], c, W => by unfold relOne dueL; simp
  | t :: r, c, W => by
    unfold relOne dueL
    by_cases h : t ≤ now
    · rw [if_pos h, relOne_eq now i r, List.takeWhile_cons_of_pos (by simpa using h)]
      unfold dueL
      simp
      omega
    · rw [if_neg h, List.takeWhile_cons_of_neg (by simpa using h)]
      simp
/-- The jobs that the tasks from i on release. -/
def newFrom (now : Int) (nx : List Nat) : Nat → List (List Int) → List PJ
  | _, [] => []
  | i, t :: r => (dueL now (t.drop (nx.getD i 0))).map (fresh (i : Int)) ++ newFrom now nx (i + 1) r
def nxFrom (now : Int) : Nat → List (List Int) → List Nat → List Nat
  | _, [], nx => nx
  | i, t :: r, nx => nxFrom now (i + 1) r (nx.set i (nx.getD i 0 + (dueL now (t.drop (nx.getD i 0))).length))
theorem newFrom_congr {now : Int} {a b : List Nat} : ∀ (i : Nat) (r : List (List Int)), (∀ j, i ≤ j → a.getD j 0 = b.getD j 0) → newFrom now a i r = newFrom now b i r
  | _, [], _ => rfl
  | i, t :: r, h => by
    unfold newFrom
    rw [h i (Nat.le_refl _), newFrom_congr (i + 1) r (fun j hj => h j (by omega))]
theorem getD_set {nx : List Nat} {i j c : Nat} (h : i ≠ j) : (nx.set i c).getD j 0 = nx.getD j 0 := by
  rw [List.getD_eq_getElem?_getD, List.getD_eq_getElem?_getD, List.getElem?_set_ne h]
theorem getD_set_self {nx : List Nat} {i c : Nat} (h : i < nx.length) : (nx.set i c).getD i 0 = c := by
  rw [List.getD_eq_getElem?_getD, List.getElem?_set_self h]
  rfl
theorem relAll_eq (now : Int) : ∀ (i : Nat) (r : List (List Int)) (nx : List Nat) (W : List PJ), relAll now i r nx W = (nxFrom now i r nx, W ++ newFrom now nx i r)
  | _, [], nx, W => by unfold relAll nxFrom newFrom; rw [List.append_nil]
  | i, t :: r, nx, W => by
    unfold relAll nxFrom newFrom
    rw [relOne_eq, relAll_eq now (i + 1) r, List.append_assoc, newFrom_congr (a := nx.set i _) (b := nx) (i + 1) r (fun j hj => getD_set (by omega))]
theorem nxFrom_len (now : Int) : ∀ (i : Nat) (r : List (List Int)) (nx : List Nat), (nxFrom now i r nx).length = nx.length
  | _, [], _ => rfl
  | i, t :: r, nx => by unfold nxFrom; rw [nxFrom_len now (i + 1) r, List.length_set]
theorem nxFrom_below (now : Int) : ∀ (i : Nat) (r : List (List Int)) (nx : List Nat) (j : Nat), j < i → (nxFrom now i r nx).getD j 0 = nx.getD j 0
  | _, [], _, _, _ => rfl
  | i, t :: r, nx, j, h => by unfold nxFrom; rw [nxFrom_below now (i + 1) r _ j (by omega), getD_set (by omega)]
theorem nxFrom_at (now : Int) : ∀ (i : Nat) (r : List (List Int)) (nx : List Nat) (j : Nat) (h : j < r.length), i + j < nx.length → (nxFrom now i r nx).getD (i + j) 0 = nx.getD (i + j) 0 + (dueL now (r[j].drop (nx.getD (i + j) 0))).length
  | i, t :: r, nx, 0, _, hl => by unfold nxFrom; rw [nxFrom_below now (i + 1) r _ _ (by omega)]; exact getD_set_self hl
  | i, t :: r, nx, j + 1, h, hl => by
    unfold nxFrom
    have := nxFrom_at now (i + 1) r (nx.set i (nx.getD i 0 + (dueL now (t.drop (nx.getD i 0))).length)) j (by simpa using h) (by rw [List.length_set]; omega)
    rw [show i + 1 + j = i + (j + 1) by omega] at this
    rw [this, getD_set (by omega)]
    rfl
/-- A job of a task. -/
def tk (i : Nat) (p : PJ) : Bool := p.task == (i : Int)
theorem tk_fresh (i j : Nat) (t : Int) : tk i (fresh (j : Int) t) = (j == i) := by
  unfold tk fresh
  by_cases h : j = i
  · subst h; simp
  · rw [beq_eq_false_iff_ne.2 h, beq_eq_false_iff_ne.2 (by show (j : Int) ≠ i; omega)]
theorem newFrom_tk (now : Int) (nx : List Nat) (j : Nat) : ∀ (i : Nat) (r : List (List Int)), (newFrom now nx i r).filter (tk j) = if h : i ≤ j ∧ j < i + r.length then (dueL now ((r[j - i]'(by omega)).drop (nx.getD j 0))).map (fresh (j : Int)) else []
  | i, [] => by unfold newFrom; rw [dif_neg (by rw [List.length_nil]; omega)]; rfl
  | i, t :: r => by
    unfold newFrom
    rw [List.filter_append, newFrom_tk now nx j (i + 1) r]
    by_cases hij : i = j
    · subst hij
      rw [dif_neg (by omega), dif_pos (by simp), List.append_nil, List.filter_eq_self.2 (fun x hx => by
        obtain ⟨y, _, rfl⟩ := List.mem_map.1 hx
        rw [tk_fresh]; simp)]
      simp
    · rw [List.filter_eq_nil_iff.2 (fun x hx => by
        obtain ⟨y, _, rfl⟩ := List.mem_map.1 hx
        rw [tk_fresh, beq_eq_false_iff_ne.2 hij]; simp), List.nil_append]
      by_cases h : i + 1 ≤ j ∧ j < i + 1 + r.length
      · rw [dif_pos h, dif_pos (by simp; omega)]
        congr 3
        have e : j - i = (j - (i + 1)) + 1 := by omega
        simp only [e, List.getElem_cons_succ]
      · rw [dif_neg h, dif_neg (by simp; omega)]
theorem mem_due {now t : Int} : ∀ {ts : List Int}, t ∈ dueL now ts → t ≤ now ∧ t ∈ ts
  | [], h => by cases h
  | a :: r, h => by
    unfold dueL at h
    by_cases c : a ≤ now
    · rw [List.takeWhile_cons_of_pos (by simpa using c)] at h
      rcases List.mem_cons.1 h with rfl | h
      · exact ⟨c, List.mem_cons_self⟩
      · obtain ⟨h1, h2⟩ := mem_due (ts := r) h
        exact ⟨h1, List.mem_cons_of_mem _ h2⟩
    · rw [List.takeWhile_cons_of_neg (by simpa using c)] at h
      cases h
theorem newFrom_mem {now : Int} {nx : List Nat} : ∀ {i : Nat} {r : List (List Int)} {q : PJ}, q ∈ newFrom now nx i r → ∃ (j : Nat) (t : Int), i ≤ j ∧ j < i + r.length ∧ q = fresh (j : Int) t ∧ t ≤ now ∧ t ∈ r.getD (j - i) []
  | i, [], q, h => by cases h
  | i, t :: r, q, h => by
    unfold newFrom at h
    rcases List.mem_append.1 h with h | h
    · obtain ⟨y, hy, rfl⟩ := List.mem_map.1 h
      obtain ⟨h1, h2⟩ := mem_due hy
      exact ⟨i, y, Nat.le_refl _, by simp, rfl, h1, by rw [Nat.sub_self]; exact List.mem_of_mem_drop h2⟩
    · obtain ⟨j, y, h1, h2, h3, h4, h5⟩ := newFrom_mem h
      refine ⟨j, y, by omega, by simp; omega, h3, h4, ?_⟩
      rw [show j - i = (j - (i + 1)) + 1 by omega]
      simpa using h5
/-! One unit -/
theorem step_cases (l : List S49) (rel : List (List Int)) (now : Int) (s : Sim) :
    (s.wt ++ newFrom now s.nx 0 rel = [] ∧ stepV l rel now s = ⟨nxFrom now 0 rel s.nx, [], s.out⟩) ∨
    ∃ pre p post, s.wt ++ newFrom now s.nx 0 rel = pre ++ p :: post ∧ (∀ y ∈ pre ++ post, ¬ kLt l y p) ∧
      ((p.done + 1 = (rd_T49 l p.task).f0 ∧ stepV l rel now s = ⟨nxFrom now 0 rel s.nx, pre.map (hinder p.task) ++ post.map (hinder p.task), s.out ++ [jobOf { runJob now p with fin := now + 1 }]⟩) ∨
       (p.done + 1 ≠ (rd_T49 l p.task).f0 ∧ stepV l rel now s = ⟨nxFrom now 0 rel s.nx, pre.map (hinder p.task) ++ runJob now p :: post.map (hinder p.task), s.out⟩)) := by
  unfold stepV workV
  rw [relAll_eq]
  cases h : s.wt ++ newFrom now s.nx 0 rel with
  | nil => exact .inl ⟨rfl, rfl⟩
  | cons x r =>
    refine .inr ⟨(bsp (ltV l) [] x [] r).1, (bsp (ltV l) [] x [] r).2.1, (bsp (ltV l) [] x [] r).2.2, (bsp_split (ltV l) r [] x []).symm, fun y hy => ?_, ?_⟩
    · exact ltV_false (bsp_min (ltV l) (fun a b c h1 h2 => (ltV_iff l a c).2 (kLt_trans ((ltV_iff l a b).1 h1) ((ltV_iff l b c).1 h2))) r [] x [] (fun y hy => by cases hy) (by
        cases e : ltV l x x with
        | false => rfl
        | true => exact absurd ((ltV_iff l x x).1 e) (kLt_irrefl x)) (fun y => by
        cases e : ltV l y y with
        | false => rfl
        | true => exact absurd ((ltV_iff l y y).1 e) (kLt_irrefl y)) y hy)
    · by_cases hd : (bsp (ltV l) [] x [] r).2.1.done + 1 = (rd_T49 l (bsp (ltV l) [] x [] r).2.1.task).f0
      · refine .inl ⟨hd, ?_⟩
        show execV l now s.out (nxFrom now 0 rel s.nx) (bsp (ltV l) [] x [] r) = _
        unfold execV
        rw [if_pos (show (runJob now (bsp (ltV l) [] x [] r).2.1).done = _ from hd)]
      · refine .inr ⟨hd, ?_⟩
        show execV l now s.out (nxFrom now 0 rel s.nx) (bsp (ltV l) [] x [] r) = _
        unfold execV
        rw [if_neg (show ¬ (runJob now (bsp (ltV l) [] x [] r).2.1).done = _ from hd)]
end Go.Proofs.Ytcmifojplgmgkaa.CEv
