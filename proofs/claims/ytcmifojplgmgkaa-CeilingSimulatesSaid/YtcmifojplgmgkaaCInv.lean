/- What holds of the simulation's states at each time. -/
import Derived.Test.YtcmifojplgmgkaaCAdm
import Derived.Test.YtcmifojplgmgkaaCSim
set_option linter.unusedVariables false
set_option linter.unusedSectionVars false
namespace Go.Proofs.Ytcmifojplgmgkaa.CEv
open Go.RowKit Go.Proofs.Ytcmifojplgmgkaa.P Go.Proofs.YtcmifojplgmgkaaW.PrintWords Go.Proofs.YtcmifojplgmgkaaW.PrintMore
theorem spc_pair {p : Int} (hp : 0 ≤ p) : ∀ {r : List Int} {o : Option Int}, spc p o r = true → r.Pairwise (fun a b => a + p ≤ b) ∧ (∀ x ∈ r, 0 ≤ x) ∧ ∀ u, o = some u → ∀ x ∈ r, u + p ≤ x
  | [], _, _ => ⟨List.Pairwise.nil, by simp, by simp⟩
  | t :: r, o, h => by
    have h0 : 0 ≤ t ∧ spc p (some t) r = true ∧ ∀ u, o = some u → p ≤ t - u := by
      cases o with
      | none => unfold spc at h; rw [Bool.and_eq_true] at h; exact ⟨of_decide_eq_true h.1, h.2, by simp⟩
      | some u => unfold spc at h; rw [Bool.and_eq_true, Bool.and_eq_true] at h; exact ⟨of_decide_eq_true h.1, h.2.2, fun v hv => by injection hv with hv; subst hv; exact of_decide_eq_true h.2.1⟩
    obtain ⟨h1, h2, h3⟩ := h0
    obtain ⟨i1, i2, i3⟩ := spc_pair hp h2
    refine ⟨List.Pairwise.cons (fun x hx => i3 t rfl x hx) i1, fun x hx => ?_, fun u hu x hx => ?_⟩
    · rcases List.mem_cons.1 hx with rfl | hx
      · exact h1
      · exact i2 x hx
    · have := h3 u hu
      rcases List.mem_cons.1 hx with rfl | hx
      · omega
      · have := i3 t rfl x hx
        omega
/-- Simulate's arguments are permitted. -/
structure Adm (l : List S49) (rel : List (List Int)) : Prop where
  v : vld l = true
  len : rel.length = l.length
  gap : ∀ i (h : i < rel.length), (rel[i]).Pairwise (fun a b => a + (rd_T49 l (i : Int)).f1 ≤ b)
  pos : ∀ i (h : i < rel.length), ∀ x ∈ rel[i], 0 ≤ x
theorem Adm.task {l : List S49} {rel : List (List Int)} (h : Adm l rel) {i : Int} (h0 : 0 ≤ i) (h1 : i < l.length) : vldT (rd_T49 l i) = true := (vld_of h.v).2 _ (rd49_mem h0 h1)
theorem Adm.cost {l : List S49} {rel : List (List Int)} (h : Adm l rel) {i : Int} (h0 : 0 ≤ i) (h1 : i < l.length) : 1 ≤ (rd_T49 l i).f0 ∧ (rd_T49 l i).f0 ≤ 1000 ∧ 1 ≤ (rd_T49 l i).f1 := by
  obtain ⟨a, b, c, _⟩ := vldT_of (h.task h0 h1)
  exact ⟨a, b, c⟩
theorem Adm.incr {l : List S49} {rel : List (List Int)} (h : Adm l rel) (i : Nat) (hi : i < rel.length) : (rel[i]).Pairwise (fun a b => a < b) :=
  (h.gap i hi).imp fun {a b} hab => by
    have := (h.cost (i := (i : Int)) (by omega) (by have := h.len; omega)).2.2
    omega
theorem spcAll_at {l : List S49} {rel : List (List Int)} (he : rel.length = l.length) (hs : spcAll l rel = true) (i : Nat) (hi : i < rel.length) : spc (rd_T49 l (i : Int)).f1 none rel[i] = true := by
  unfold spcAll at hs
  have hil : i < l.length := by omega
  have hm : (l[i], rel[i]) ∈ l.zip rel := by
    rw [List.mem_iff_getElem?]
    refine ⟨i, ?_⟩
    rw [List.getElem?_zip_eq_some]
    exact ⟨List.getElem?_eq_getElem hil, List.getElem?_eq_getElem hi⟩
  have := List.all_eq_true.1 hs _ hm
  rw [rd49_at l i hil]
  exact this
theorem Adm.of {l : List S49} {rel : List (List Int)} {a : Int} (h : admV l rel a = 0) : Adm l rel ∧ 0 ≤ a ∧ a ≤ 100000 := by
  unfold admV at h
  by_cases h1 : vld l = true ∧ rel.length = l.length
  · rw [if_pos h1] at h
    by_cases h2 : 0 ≤ a ∧ a ≤ 100000
    · rw [if_pos h2] at h
      by_cases h3 : spcAll l rel = true
      · have key : ∀ i (hi : i < rel.length), spc (rd_T49 l (i : Int)).f1 none rel[i] = true := spcAll_at h1.2 h3
        have hp : ∀ i, i < rel.length → 0 ≤ (rd_T49 l (i : Int)).f1 := fun i hi => by
          obtain ⟨_, _, c, _⟩ := vldT_of ((vld_of h1.1).2 _ (rd49_mem (l := l) (i := (i : Int)) (by omega) (by omega)))
          omega
        exact ⟨⟨h1.1, h1.2, fun i hi => (spc_pair (hp i hi) (key i hi)).1, fun i hi => (spc_pair (hp i hi) (key i hi)).2.1⟩, h2⟩
      · rw [if_neg h3] at h; exact absurd h (by decide)
    · rw [if_neg h2] at h; exact absurd h (by decide)
  · rw [if_neg h1] at h; exact absurd h (by decide)
/-! Ranks -/
theorem rank_facts {l : List S49} {rel : List (List Int)} (h : Adm l rel) {p : PJ} (h0 : 0 ≤ p.task) (h1 : p.task < l.length) :
    (inSec (rd_T49 l p.task).f3 p.done = none ∧ r1 l p = p.task ∧ r2 l p = 1) ∨
    ∃ s ∈ (rd_T49 l p.task).f3, inSec (rd_T49 l p.task).f3 p.done = some s ∧ s.f1 < p.done ∧ p.done < s.f2 ∧ 0 ≤ s.f1 ∧ s.f2 ≤ (rd_T49 l p.task).f0 ∧ r1 l p = mn p.task (ceilF l s.f0) ∧ r2 l p = 0 := by
  unfold r1 r2 rankV
  cases hs : inSec (rd_T49 l p.task).f3 p.done with
  | none => exact .inl ⟨rfl, rfl, rfl⟩
  | some s =>
    have hm := List.mem_of_find?_eq_some hs
    have hc := List.find?_some hs
    rw [Bool.and_eq_true] at hc
    obtain ⟨_, _, _, _, _, _, _, v8⟩ := vldT_of (h.task h0 h1)
    obtain ⟨b0, b1, b2, _, _⟩ := secB_bd (Int.le_refl 0) v8 s hm
    exact .inr ⟨s, hm, rfl, of_decide_eq_true hc.1, of_decide_eq_true hc.2, b0, b2, rfl, rfl⟩
theorem mn_le (a b : Int) : mn a b ≤ a ∧ mn a b ≤ b ∧ (mn a b = a ∨ mn a b = b) := by unfold mn; split <;> omega
theorem ceilF_nonneg (l : List S49) (o : Int) : 0 ≤ ceilF l o := by unfold ceilF; omega
theorem rank_le {l : List S49} {rel : List (List Int)} (h : Adm l rel) {p : PJ} (h0 : 0 ≤ p.task) (h1 : p.task < l.length) : 0 ≤ r1 l p ∧ r1 l p ≤ p.task ∧ (r2 l p = 0 ∨ (r2 l p = 1 ∧ r1 l p = p.task)) := by
  rcases rank_facts h h0 h1 with ⟨_, a, b⟩ | ⟨s, _, _, _, _, _, _, a, b⟩
  · rw [a]; exact ⟨h0, Int.le_refl _, .inr ⟨b, rfl⟩⟩
  · have := mn_le p.task (ceilF l s.f0)
    have := ceilF_nonneg l s.f0
    exact ⟨by rw [a]; omega, by rw [a]; omega, .inl b⟩
theorem rank_zero {l : List S49} {rel : List (List Int)} (h : Adm l rel) {p : PJ} (h0 : 0 ≤ p.task) (h1 : p.task < l.length) (hd : p.done ≤ 0) : r1 l p = p.task ∧ r2 l p = 1 := by
  rcases rank_facts h h0 h1 with ⟨_, a, b⟩ | ⟨s, _, _, c, _, d, _⟩
  · exact ⟨a, b⟩
  · omega
theorem r_hinder {l : List S49} (t : Int) (q : PJ) : r1 l (hinder t q) = r1 l q ∧ r2 l (hinder t q) = r2 l q ∧ (hinder t q).task = q.task ∧ (hinder t q).rel = q.rel ∧ (hinder t q).done = q.done ∧ (hinder t q).began = q.began ∧ (hinder t q).start = q.start ∧
    ((q.task < t ∧ (hinder t q).blk = q.blk + 1) ∨ (t ≤ q.task ∧ (hinder t q).blk = q.blk)) := by
  unfold hinder
  by_cases h : q.task < t
  · rw [if_pos h]; exact ⟨rfl, rfl, rfl, rfl, rfl, rfl, rfl, .inl ⟨h, rfl⟩⟩
  · rw [if_neg h]; exact ⟨rfl, rfl, rfl, rfl, rfl, rfl, rfl, .inr ⟨by omega, rfl⟩⟩
/-! What has been released -/
theorem due_more {a b : Int} (hab : a ≤ b) : ∀ (r : List Int), dueL b r = dueL a r ++ dueL b (r.drop (dueL a r).length)
  | [] => rfl
  | x :: r => by
    unfold dueL
    by_cases h : x ≤ a
    · rw [List.takeWhile_cons_of_pos (by simp; omega), List.takeWhile_cons_of_pos (by simpa using h)]
      have := due_more hab r
      unfold dueL at this
      rw [List.length_cons, List.drop_succ_cons, List.cons_append, ← this]
    · rw [List.takeWhile_cons_of_neg (a := x) (p := fun x => decide (x ≤ a)) (by simpa using h)]
      rfl
theorem due_nil {r : List Int} (h : ∀ x ∈ r, 0 ≤ x) : dueL (-1) r = [] := by
  cases r with
  | nil => rfl
  | cons x r =>
    unfold dueL
    rw [List.takeWhile_cons_of_neg (by have := h x List.mem_cons_self; simp; omega)]
theorem due_sub (a : Int) (r : List Int) : (dueL a r).Sublist r := List.takeWhile_sublist _
/-- A job of a task that has ended. -/
def ok (i : Nat) (j : S34) : Bool := j.f0 == (i : Int)
/-- A waiting job. -/
structure JI (l : List S49) (t : Int) (p : PJ) : Prop where
  t0 : 0 ≤ p.task
  t1 : p.task < l.length
  d0 : 0 ≤ p.done
  d1 : p.done < (rd_T49 l p.task).f0
  b0 : 0 ≤ p.blk
  r0 : 0 ≤ p.rel
  sum : p.done + p.blk ≤ t - p.rel
  beg : p.began = true ↔ 0 < p.done
  st : p.began = true → p.rel ≤ p.start ∧ p.done ≤ t - p.start
structure Inv (l : List S49) (rel : List (List Int)) (t : Int) (s : Sim) : Prop where
  nxl : s.nx.length = l.length
  nxe : ∀ i (h : i < rel.length), s.nx.getD i 0 = (dueL (t - 1) rel[i]).length
  fifo : ∀ i (h : i < rel.length), (s.out.filter (ok i)).map (·.f1) ++ (s.wt.filter (tk i)).map (·.rel) = dueL (t - 1) rel[i]
  job : ∀ p ∈ s.wt, JI l t p
  head : ∀ p ∈ s.wt, 0 < p.done → ∀ q ∈ s.wt, q.task = p.task → p.rel ≤ q.rel
section
variable {l : List S49} {rel : List (List Int)} (hA : Adm l rel)
include hA
theorem inv_start : Inv l rel 0 ⟨List.replicate l.length 0, [], []⟩ := by
  refine ⟨by simp, fun i h => ?_, fun i h => ?_, fun p hp => by (cases hp), fun p hp => by (cases hp)⟩
  · rw [show (0 : Int) - 1 = -1 from rfl, due_nil (hA.pos i h)]
    simp [List.getD_eq_getElem?_getD, List.getElem?_replicate]
    split <;> rfl
  · rw [show (0 : Int) - 1 = -1 from rfl, due_nil (hA.pos i h)]
    rfl
/-- Behind the releases of a time. -/
structure Rel (l : List S49) (rel : List (List Int)) (t : Int) (nx : List Nat) (W : List PJ) (out : List S34) : Prop where
  nxl : nx.length = l.length
  nxe : ∀ i (h : i < rel.length), nx.getD i 0 = (dueL t rel[i]).length
  fifo : ∀ i (h : i < rel.length), (out.filter (ok i)).map (·.f1) ++ (W.filter (tk i)).map (·.rel) = dueL t rel[i]
  job : ∀ p ∈ W, JI l t p
  head : ∀ p ∈ W, 0 < p.done → ∀ q ∈ W, q.task = p.task → p.rel ≤ q.rel
omit hA in
theorem tk_iff {i : Nat} {p : PJ} : tk i p = true ↔ p.task = (i : Int) := by unfold tk; exact beq_iff_eq
theorem inv_rel {t : Int} {s : Sim} (h : Inv l rel t s) (ht : 0 ≤ t) : Rel l rel t (nxFrom t 0 rel s.nx) (s.wt ++ newFrom t s.nx 0 rel) s.out := by
  have hlen := hA.len
  have hmore : ∀ i (hi : i < rel.length), dueL t rel[i] = dueL (t - 1) rel[i] ++ dueL t (rel[i].drop (s.nx.getD i 0)) := fun i hi => by
    rw [h.nxe i hi]; exact due_more (by omega) rel[i]
  have hfifo : ∀ i (hi : i < rel.length), (s.out.filter (ok i)).map (·.f1) ++ ((s.wt ++ newFrom t s.nx 0 rel).filter (tk i)).map (·.rel) = dueL t rel[i] := fun i hi => by
    rw [List.filter_append, newFrom_tk, dif_pos (by omega), List.map_append, ← List.append_assoc, h.fifo i hi, hmore i hi, List.map_map]
    congr 1
    simp only [Nat.sub_zero]
    exact List.map_id'' (fun x => rfl) _
  refine ⟨by rw [nxFrom_len]; exact h.nxl, fun i hi => ?_, hfifo, fun p hp => ?_, fun p hp hd q hq he => ?_⟩
  · have := nxFrom_at t 0 rel s.nx i hi (by rw [h.nxl]; omega)
    rw [Nat.zero_add] at this
    rw [this, hmore i hi, List.length_append, ← h.nxe i hi]
  · rcases List.mem_append.1 hp with hp | hp
    · exact h.job p hp
    · obtain ⟨j, x, _, h2, rfl, h4, h5⟩ := newFrom_mem hp
      have hj : j < rel.length := by omega
      have hx : x ∈ rel[j] := by
        rw [Nat.sub_zero, List.getD_eq_getElem?_getD, List.getElem?_eq_getElem hj] at h5
        exact h5
      have hx0 := hA.pos j hj x hx
      have hc := (hA.cost (i := (j : Int)) (by omega) (by omega)).1
      exact ⟨by show 0 ≤ (j : Int); omega, by show (j : Int) < l.length; omega, Int.le_refl 0, by show 0 < _; exact hc, Int.le_refl 0, hx0, by show (0 : Int) + 0 ≤ t - x; omega, ⟨fun h => (by cases h), fun h => absurd h (by show ¬ (0 : Int) < 0; omega)⟩, fun h => (by cases h)⟩
  · have hp' : p ∈ s.wt := by
      rcases List.mem_append.1 hp with hp | hp
      · exact hp
      · obtain ⟨j, x, _, h2, rfl, h4, h5⟩ := newFrom_mem hp
        exact absurd hd (by show ¬ (0 : Int) < 0; omega)
    rcases List.mem_append.1 hq with hq | hq
    · exact h.head p hp' hd q hq he
    · have hj := h.job p hp'
      obtain ⟨i, hi⟩ : ∃ i : Nat, p.task = (i : Int) := ⟨p.task.toNat, by have := hj.t0; omega⟩
      have hir : i < rel.length := by have := hj.t1; omega
      have hmem : ∀ x ∈ s.wt.filter (tk i), ∀ y ∈ (newFrom t s.nx 0 rel).filter (tk i), x.rel < y.rel := by
        have hinc := (hA.incr i hir).sublist (due_sub t rel[i])
        rw [← hfifo i hir, List.filter_append, List.map_append, ← List.append_assoc, List.append_assoc, List.pairwise_append] at hinc
        have h2 := hinc.2.1
        rw [List.pairwise_append] at h2
        exact fun x hx y hy => h2.2.2 x.rel (List.mem_map_of_mem hx) y.rel (List.mem_map_of_mem hy)
      have := hmem p (List.mem_filter.2 ⟨hp', tk_iff.2 hi⟩) q (List.mem_filter.2 ⟨hq, tk_iff.2 (he.trans hi)⟩)
      omega
/-- Of two jobs of a task the elder is preferred. -/
theorem elder_lt {t : Int} {nx : List Nat} {W : List PJ} {out : List S34} (h : Rel l rel t nx W out) {y p : PJ} (hy : y ∈ W) (hp : p ∈ W) (he : y.task = p.task) (hr : y.rel < p.rel) : kLt l y p := by
  have jp := h.job p hp
  have jy := h.job y hy
  have hd : p.done ≤ 0 := by
    by_cases c : 0 < p.done
    · have := h.head p hp c y hy he; omega
    · omega
  obtain ⟨a, b⟩ := rank_zero hA jp.t0 jp.t1 hd
  have := rank_le hA jy.t0 jy.t1
  unfold kLt
  omega
/-- What is ahead of the preferred job is of other tasks. -/
theorem pre_other {t : Int} {nx : List Nat} {pre post : List PJ} {p : PJ} {out : List S34} (h : Rel l rel t nx (pre ++ p :: post) out) (hm : ∀ y ∈ pre ++ post, ¬ kLt l y p) : ∀ y ∈ pre, y.task ≠ p.task := by
  intro y hy he
  have jp := h.job p (by simp)
  obtain ⟨i, hi⟩ : ∃ i : Nat, p.task = (i : Int) := ⟨p.task.toNat, by have := jp.t0; omega⟩
  have hir : i < rel.length := by have := jp.t1; have := hA.len; omega
  have hinc := (hA.incr i hir).sublist (due_sub t rel[i])
  rw [← h.fifo i hir, List.filter_append, List.map_append, List.pairwise_append, List.filter_cons_of_pos (tk_iff.2 hi), List.map_cons] at hinc
  have h2 := hinc.2.1
  rw [List.pairwise_append] at h2
  have h3 := h2.2.2 y.rel (List.mem_map_of_mem (List.mem_filter.2 ⟨hy, tk_iff.2 (he.trans hi)⟩)) p.rel List.mem_cons_self
  exact hm y (List.mem_append_left _ hy) (elder_lt hA h (List.mem_append_left _ hy) (by simp) he h3)
omit hA in
theorem filter_hinder (i : Nat) (t : Int) (W : List PJ) : ((W.map (hinder t)).filter (tk i)).map (·.rel) = (W.filter (tk i)).map (·.rel) := by
  induction W with
  | nil => rfl
  | cons a r ih =>
    rw [List.map_cons]
    obtain ⟨_, _, e, f, _⟩ := r_hinder (l := []) t a
    have ek : tk i (hinder t a) = tk i a := by unfold tk; rw [e]
    by_cases c : tk i a = true
    · rw [List.filter_cons_of_pos (by rw [ek]; exact c), List.filter_cons_of_pos c, List.map_cons, List.map_cons, ih, f]
    · rw [List.filter_cons_of_neg (by rw [ek]; exact c), List.filter_cons_of_neg c, ih]
omit hA in
theorem JI.hinder {t b : Int} {p : PJ} (h : JI l t p) : JI l (t + 1) (hinder b p) := by
  obtain ⟨_, _, e1, e2, e3, e4, e5, e6⟩ := r_hinder (l := l) b p
  obtain ⟨a1, a2, a3, a4, a5, a6, a7, a8, a9⟩ := h
  refine ⟨by rw [e1]; exact a1, by rw [e1]; exact a2, by rw [e3]; exact a3, by rw [e1, e3]; exact a4, by omega, by rw [e2]; exact a6, by rw [e3, e2]; omega, by rw [e4, e3]; exact a8, fun hb => ?_⟩
  rw [e4] at hb
  obtain ⟨b1, b2⟩ := a9 hb
  rw [e2, e5, e3]
  exact ⟨b1, by omega⟩
omit hA in
theorem JI.run {t : Int} {p : PJ} (h : JI l t p) (hn : p.done + 1 ≠ (rd_T49 l p.task).f0) : JI l (t + 1) (runJob t p) := by
  obtain ⟨a1, a2, a3, a4, a5, a6, a7, a8, a9⟩ := h
  refine ⟨a1, a2, by show 0 ≤ p.done + 1; omega, by show p.done + 1 < (rd_T49 l p.task).f0; omega, a5, a6, by show p.done + 1 + p.blk ≤ t + 1 - p.rel; omega, ⟨fun _ => by show 0 < p.done + 1; omega, fun _ => rfl⟩, fun _ => ?_⟩
  show p.rel ≤ (if p.began = true then p.start else t) ∧ p.done + 1 ≤ t + 1 - (if p.began = true then p.start else t)
  by_cases hb : p.began = true
  · rw [if_pos hb]
    have := a9 hb
    omega
  · rw [if_neg hb]
    have : ¬ 0 < p.done := fun c => hb (a8.2 c)
    omega
/-- A unit. -/
theorem inv_step {t : Int} {s : Sim} (h : Inv l rel t s) (ht : 0 ≤ t) : Inv l rel (t + 1) (stepV l rel t s) := by
  have hR := inv_rel hA h ht
  have e : t + 1 - 1 = t := by omega
  rcases step_cases l rel t s with ⟨hw, hs⟩ | ⟨pre, p, post, hw, hm, hs⟩
  · rw [hs]
    rw [hw] at hR
    exact ⟨hR.nxl, fun i hi => by rw [e]; exact hR.nxe i hi, fun i hi => by rw [e]; exact hR.fifo i hi, fun p hp => (by cases hp), fun p hp => (by cases hp)⟩
  · rw [hw] at hR
    have hpre := pre_other hA hR hm
    have hjp := hR.job p (by simp)
    have hhead : ∀ x ∈ pre ++ post, 0 < x.done → ∀ y ∈ pre ++ post, y.task = x.task → x.rel ≤ y.rel := fun x hx hd y hy he => by
      have sub : ∀ z, z ∈ pre ++ post → z ∈ pre ++ p :: post := fun z hz => by
        rcases List.mem_append.1 hz with hz | hz
        · exact List.mem_append_left _ hz
        · exact List.mem_append_right _ (List.mem_cons_of_mem _ hz)
      exact hR.head x (sub x hx) hd y (sub y hy) he
    rcases hs with ⟨hd, hs⟩ | ⟨hd, hs⟩
    · rw [hs]
      refine ⟨hR.nxl, fun i hi => by rw [e]; exact hR.nxe i hi, fun i hi => ?_, fun q hq => ?_, fun q hq hd q' hq' he => ?_⟩
      · rw [e, ← hR.fifo i hi]
        show ((s.out ++ [jobOf { runJob t p with fin := t + 1 }]).filter (ok i)).map (fun j : S34 => j.f1) ++ ((pre.map (hinder p.task) ++ post.map (hinder p.task)).filter (tk i)).map (fun q : PJ => q.rel) = _
        rw [← List.map_append, filter_hinder, List.filter_append, List.filter_append, List.filter_append, List.map_append, List.map_append, List.map_append]
        by_cases c : p.task = (i : Int)
        · have hp0 : pre.filter (tk i) = [] := List.filter_eq_nil_iff.2 (fun y hy => by rw [tk_iff]; exact fun k => hpre y hy (k.trans c.symm))
          have hj0 : [jobOf { runJob t p with fin := t + 1 }].filter (ok i) = [jobOf { runJob t p with fin := t + 1 }] := List.filter_cons_of_pos (by unfold ok; exact beq_iff_eq.2 c)
          rw [List.filter_cons_of_pos (tk_iff.2 c), hp0, hj0]
          simp [jobOf, runJob]
        · have hj0 : [jobOf { runJob t p with fin := t + 1 }].filter (ok i) = [] := List.filter_cons_of_neg (by unfold ok; rw [beq_iff_eq]; exact c)
          have hq0 : (p :: post).filter (tk i) = post.filter (tk i) := List.filter_cons_of_neg (by rw [tk_iff]; exact c)
          rw [hq0, hj0]
          simp
      · rw [← List.map_append] at hq
        obtain ⟨y, hy, rfl⟩ := List.mem_map.1 hq
        rcases List.mem_append.1 hy with hy | hy
        · exact (hR.job y (List.mem_append_left _ hy)).hinder
        · exact (hR.job y (List.mem_append_right _ (List.mem_cons_of_mem _ hy))).hinder
      · rw [← List.map_append] at hq hq'
        obtain ⟨y, hy, rfl⟩ := List.mem_map.1 hq
        obtain ⟨y', hy', rfl⟩ := List.mem_map.1 hq'
        obtain ⟨_, _, e1, e2, e3, _⟩ := r_hinder (l := l) p.task y
        obtain ⟨_, _, f1, f2, f3, _⟩ := r_hinder (l := l) p.task y'
        rw [e2, f2]
        rw [e3] at hd
        rw [e1, f1] at he
        exact hhead y hy hd y' hy' he
    · rw [hs]
      have hmem : ∀ q, q ∈ pre.map (hinder p.task) ++ runJob t p :: post.map (hinder p.task) → q = runJob t p ∨ ∃ y ∈ pre ++ post, q = hinder p.task y := fun q hq => by
        rcases List.mem_append.1 hq with hq | hq
        · obtain ⟨y, hy, rfl⟩ := List.mem_map.1 hq
          exact .inr ⟨y, List.mem_append_left _ hy, rfl⟩
        · rcases List.mem_cons.1 hq with rfl | hq
          · exact .inl rfl
          · obtain ⟨y, hy, rfl⟩ := List.mem_map.1 hq
            exact .inr ⟨y, List.mem_append_right _ hy, rfl⟩
      have hpost : ∀ y ∈ pre ++ post, y.task = p.task → p.rel ≤ y.rel := fun y hy he => by
        rcases Int.lt_or_le y.rel p.rel with c | c
        · have hyW : y ∈ pre ++ p :: post := by
            rcases List.mem_append.1 hy with hy | hy
            · exact List.mem_append_left _ hy
            · exact List.mem_append_right _ (List.mem_cons_of_mem _ hy)
          exact absurd (elder_lt hA hR hyW (by simp) he c) (hm y hy)
        · exact c
      refine ⟨hR.nxl, fun i hi => by rw [e]; exact hR.nxe i hi, fun i hi => ?_, fun q hq => ?_, fun q hq hd q' hq' he => ?_⟩
      · rw [e, ← hR.fifo i hi]
        show (s.out.filter (ok i)).map (fun j : S34 => j.f1) ++ ((pre.map (hinder p.task) ++ runJob t p :: post.map (hinder p.task)).filter (tk i)).map (fun q : PJ => q.rel) = _
        rw [List.filter_append, List.filter_append, List.map_append, List.map_append, filter_hinder]
        by_cases c : p.task = (i : Int)
        · rw [List.filter_cons_of_pos (tk_iff.2 c), List.filter_cons_of_pos (show tk i (runJob t p) = true from tk_iff.2 c), List.map_cons, List.map_cons, filter_hinder]
          rfl
        · rw [List.filter_cons_of_neg (by rw [tk_iff]; exact c), List.filter_cons_of_neg (by rw [tk_iff]; exact c), filter_hinder]
      · rcases hmem q hq with rfl | ⟨y, hy, rfl⟩
        · exact hjp.run hd
        · rcases List.mem_append.1 hy with hy | hy
          · exact (hR.job y (List.mem_append_left _ hy)).hinder
          · exact (hR.job y (List.mem_append_right _ (List.mem_cons_of_mem _ hy))).hinder
      · rcases hmem q hq with rfl | ⟨y, hy, rfl⟩
        · rcases hmem q' hq' with rfl | ⟨y', hy', rfl⟩
          · exact Int.le_refl _
          · obtain ⟨_, _, f1, f2, f3, _⟩ := r_hinder (l := l) p.task y'
            rw [f2]
            rw [f1] at he
            exact hpost y' hy' he
        · obtain ⟨_, _, e1, e2, e3, _⟩ := r_hinder (l := l) p.task y
          rw [e3] at hd
          rcases hmem q' hq' with rfl | ⟨y', hy', rfl⟩
          · rw [e2]
            rw [e1] at he
            have hyW : y ∈ pre ++ p :: post := by
              rcases List.mem_append.1 hy with hy | hy
              · exact List.mem_append_left _ hy
              · exact List.mem_append_right _ (List.mem_cons_of_mem _ hy)
            exact hR.head y hyW hd p (by simp) he
          · obtain ⟨_, _, f1, f2, f3, _⟩ := r_hinder (l := l) p.task y'
            rw [e2, f2]
            rw [e1, f1] at he
            exact hhead y hy hd y' hy' he
theorem inv_at : ∀ t : Nat, Inv l rel (t : Int) (stAt l rel t)
  | 0 => inv_start hA
  | t + 1 => by
    have := inv_step hA (inv_at t) (by omega)
    rw [show ((t + 1 : Nat) : Int) = (t : Int) + 1 by omega]
    exact this
end
end Go.Proofs.Ytcmifojplgmgkaa.CEv
