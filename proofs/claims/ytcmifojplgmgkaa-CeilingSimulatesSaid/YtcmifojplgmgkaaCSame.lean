/- The reference's simulation goes in step with the given one. -/
import Derived.Test.YtcmifojplgmgkaaP33
import Derived.Test.YtcmifojplgmgkaaCAct
import Derived.Test.YtcmifojplgmgkaaCRes
set_option linter.unusedVariables false
set_option linter.unusedSectionVars false
namespace Go.Proofs.Ytcmifojplgmgkaa.CEv
open Go.RowKit Go.Proofs.Ytcmifojplgmgkaa.P Go.Proofs.YtcmifojplgmgkaaW.PrintWords Go.Proofs.YtcmifojplgmgkaaW.PrintMore
/-- A row of the reference as a pending job. -/
def toPJ (p : S97) : PJ := ⟨p.f0.f0, p.f0.f1, if p.f1 = 0 then 0 else p.f0.f2, 0, p.f0.f4, p.f1, decide (p.f1 ≠ 0)⟩
def conv64 (j : S64) : S34 := ⟨j.f0, j.f1, j.f2, j.f3, j.f4⟩
/-! Which job is preferred -/
theorem held_rank {l : List S49} (hv : vld l = true) {t d : Int} (h0 : 0 ≤ t) (h1 : t < l.length) {k : Nat} (hk : 20 ≤ k) :
    ∃ o, ontimeref43_Held.f k (rd_T93 (l.map to93) t).f0 (rd_T93 (l.map to93) t).f1 (rd_T93 (l.map to93) t).f2 (rd_T93 (l.map to93) t).f3 d = some (o, decide ((rankV l t d).2 = 0)) := by
  rw [rd93_to l h0 h1]
  have h8 := (vld_len hv).2 _ (rd49_mem h0 h1)
  have hh := held_l0 d (rd_T49 l t).f0 (rd_T49 l t).f1 (rd_T49 l t).f2 (rd_T49 l t).f3 (by omega) (rd_T49 l t).f3.length 0 k (by omega) (by omega)
  unfold ontimeref43_Held.f
  refine ⟨(heldRes (inSec (rd_T49 l t).f3 d)).1, ?_⟩
  rw [List.drop_zero] at hh
  refine hh.trans ?_
  unfold rankV heldRes
  cases inSec (rd_T49 l t).f3 d <;> simp
theorem before_eq {l : List S49} (hv : vld l = true) {k : Nat} (hk : 300 ≤ k) {p q : S97} (p0 : 0 ≤ p.f0.f0) (p1 : p.f0.f0 < l.length) (q0 : 0 ≤ q.f0.f0) (q1 : q.f0.f0 < l.length) :
    ∃ b, rBef k (l.map to93) p q = some b ∧ (b = true ↔ kLt l (toPJ p) (toPJ q)) := by
  obtain ⟨o1, e1⟩ := held_rank hv (d := p.f1) p0 p1 (k := k) (by omega)
  obtain ⟨o2, e2⟩ := held_rank hv (d := q.f1) q0 q1 (k := k) (by omega)
  unfold rBef ontimeref43_before.f
  rw [refactive_eq hv hk p0 p1, refactive_eq hv hk q0 q1]
  simp only [Option.bind_some]
  unfold kLt r1 r2
  have h2 : ∀ t d, (rankV l t d).2 = 0 ∨ (rankV l t d).2 = 1 := fun t d => by
    unfold rankV
    split
    · exact .inl rfl
    · exact .inr rfl
  have hp := h2 p.f0.f0 p.f1
  have hq := h2 q.f0.f0 q.f1
  by_cases h : (rankV l p.f0.f0 p.f1).1 = (rankV l q.f0.f0 q.f1).1
  · rw [if_pos h, if_pos p0, if_pos (by rw [List.length_map]; exact p1), e1]
    simp only [Option.bind_some]
    rw [if_pos q0, if_pos (by rw [List.length_map]; exact q1), e2]
    simp only [Option.bind_some]
    show ∃ b, _ ∧ (b = true ↔ ((rankV l p.f0.f0 p.f1).1 < (rankV l q.f0.f0 q.f1).1 ∨ (rankV l p.f0.f0 p.f1).1 = (rankV l q.f0.f0 q.f1).1 ∧ ((rankV l p.f0.f0 p.f1).2 < (rankV l q.f0.f0 q.f1).2 ∨ (rankV l p.f0.f0 p.f1).2 = (rankV l q.f0.f0 q.f1).2 ∧ (p.f0.f0 < q.f0.f0 ∨ p.f0.f0 = q.f0.f0 ∧ p.f0.f1 < q.f0.f1))))
    generalize rankV l p.f0.f0 p.f1 = P at *
    generalize rankV l q.f0.f0 q.f1 = Q at *
    by_cases c : decide (P.2 = 0) = decide (Q.2 = 0)
    · have c' : P.2 = Q.2 := by
        rw [decide_eq_decide] at c
        omega
      rw [if_neg (by rw [c]; simp)]
      by_cases d : p.f0.f0 = q.f0.f0
      · rw [if_pos d]
        exact ⟨_, rfl, by rw [decide_eq_true_eq]; omega⟩
      · rw [if_neg d]
        exact ⟨_, rfl, by rw [decide_eq_true_eq]; omega⟩
    · have c' : ¬ (P.2 = Q.2) := fun e => c (by rw [e])
      rw [if_pos (by simpa using c)]
      exact ⟨_, rfl, by rw [decide_eq_true_eq]; omega⟩
  · rw [if_neg h]
    refine ⟨_, rfl, ?_⟩
    rw [decide_eq_true_eq]
    show _ ↔ ((rankV l p.f0.f0 p.f1).1 < (rankV l q.f0.f0 q.f1).1 ∨ (rankV l p.f0.f0 p.f1).1 = (rankV l q.f0.f0 q.f1).1 ∧ ((rankV l p.f0.f0 p.f1).2 < (rankV l q.f0.f0 q.f1).2 ∨ (rankV l p.f0.f0 p.f1).2 = (rankV l q.f0.f0 q.f1).2 ∧ (p.f0.f0 < q.f0.f0 ∨ p.f0.f0 = q.f0.f0 ∧ p.f0.f1 < q.f0.f1)))
    omega
/-- The choice among the first i rows. -/
def Best (l : List S49) (now : Int) (rows : List S97) (i : Nat) (best : Int) : Prop :=
  (best = -1 ∧ ∀ p ∈ rows.take i, rOpen now p = false) ∨ ∃ (b : Nat) (h : b < rows.length), best = (b : Int) ∧ b < i ∧ rOpen now rows[b] = true ∧ ∀ p ∈ rows.take i, rOpen now p = true → ¬ kLt l (toPJ p) (toPJ rows[b])
theorem mem_take_next {rows : List S97} {i : Nat} (h : i < rows.length) {p : S97} (hp : p ∈ rows.take (i + 1)) : p ∈ rows.take i ∨ p = rows[i] := by
  rw [List.take_succ_eq_append_getElem h] at hp
  rcases List.mem_append.1 hp with hp | hp
  · exact .inl hp
  · exact .inr (List.mem_singleton.1 hp)
theorem pick_spec {l : List S49} (hv : vld l = true) {k : Nat} (hk : 300 ≤ k) {now : Int} {rows : List S97} (hr : ∀ p ∈ rows, 0 ≤ p.f0.f0 ∧ p.f0.f0 < l.length) : ∀ (n i : Nat) (best : Int), i + n = rows.length → Best l now rows i best →
    ∃ b, rPick k (l.map to93) now rows n (i : Int) best = some b ∧ Best l now rows rows.length b := by
  intro n
  induction n with
  | zero =>
    intro i best hi hB
    obtain rfl : i = rows.length := by omega
    exact ⟨best, rfl, hB⟩
  | succ n ih =>
    intro i best hi hB
    have hil : i < rows.length := by omega
    unfold rPick
    rw [rd97_eq hil, show (i : Int) + 1 = ((i + 1 : Nat) : Int) by omega]
    by_cases ho : rOpen now rows[i] = true
    · rw [if_pos ho]
      rcases hB with ⟨rfl, hn⟩ | ⟨b, hb, rfl, hbi, hob, hmin⟩
      · rw [if_pos (by omega)]
        refine ih (i + 1) i (by omega) (.inr ⟨i, hil, rfl, by omega, ho, fun p hp hop => ?_⟩)
        rcases mem_take_next hil hp with hp | rfl
        · rw [hn p hp] at hop; cases hop
        · exact kLt_irrefl _
      · rw [if_neg (by omega), rd97_eq hb]
        have pi := hr _ (List.getElem_mem hil)
        have pb := hr _ (List.getElem_mem hb)
        obtain ⟨bb, e, hbb⟩ := before_eq hv hk pi.1 pi.2 pb.1 pb.2
        rw [e]
        simp only [Option.bind_some]
        cases bb with
        | true =>
          rw [if_pos rfl]
          have hlt := hbb.1 rfl
          refine ih (i + 1) i (by omega) (.inr ⟨i, hil, rfl, by omega, ho, fun p hp hop => ?_⟩)
          rcases mem_take_next hil hp with hp | rfl
          · exact fun c => hmin p hp hop (kLt_trans c hlt)
          · exact kLt_irrefl _
        | false =>
          rw [if_neg (by simp)]
          have hlt : ¬ kLt l (toPJ rows[i]) (toPJ rows[b]) := fun c => by have := hbb.2 c; cases this
          refine ih (i + 1) b (by omega) (.inr ⟨b, hb, rfl, by omega, hob, fun p hp hop => ?_⟩)
          rcases mem_take_next hil hp with hp | rfl
          · exact hmin p hp hop
          · exact hlt
    · rw [if_neg ho]
      have ho' : rOpen now rows[i] = false := by simpa using ho
      refine ih (i + 1) best (by omega) ?_
      rcases hB with ⟨rfl, hn⟩ | ⟨b, hb, rfl, hbi, hob, hmin⟩
      · refine .inl ⟨rfl, fun p hp => ?_⟩
        rcases mem_take_next hil hp with hp | rfl
        · exact hn p hp
        · exact ho'
      · refine .inr ⟨b, hb, rfl, by omega, hob, fun p hp hop => ?_⟩
        rcases mem_take_next hil hp with hp | rfl
        · exact hmin p hp hop
        · exact absurd hop ho
/-! The releases -/
theorem due_filter {now : Int} : ∀ {ts : List Int}, ts.Pairwise (fun a b => a < b) → dueL now (ts.drop (dueL (now - 1) ts).length) = ts.filter fun x => decide (x = now)
  | [], _ => rfl
  | a :: r, h => by
    rw [List.pairwise_cons] at h
    by_cases c : a ≤ now - 1
    · have e : dueL (now - 1) (a :: r) = a :: dueL (now - 1) r := by unfold dueL; rw [List.takeWhile_cons_of_pos (by simpa using c)]
      rw [e, List.length_cons, List.drop_succ_cons, due_filter h.2, List.filter_cons_of_neg (by simp; omega)]
    · have e : dueL (now - 1) (a :: r) = [] := by unfold dueL; rw [List.takeWhile_cons_of_neg (by simpa using c)]
      rw [e, List.length_nil, List.drop_zero]
      have hr : r.filter (fun x => decide (x = now)) = [] := List.filter_eq_nil_iff.2 fun x hx => by
        have := h.1 x hx
        simp; omega
      by_cases d : a = now
      · subst d
        rw [List.filter_cons_of_pos (by simp), hr]
        unfold dueL
        rw [List.takeWhile_cons_of_pos (by simp)]
        congr 1
        cases r with
        | nil => rfl
        | cons b s =>
          have := h.1 b List.mem_cons_self
          rw [List.takeWhile_cons_of_neg (by simpa using this)]
      · rw [List.filter_cons_of_neg (by simpa using d), hr]
        unfold dueL
        rw [List.takeWhile_cons_of_neg (by simp; omega)]
def pend (i : Nat) (x : Int) : S97 := ⟨⟨(i : Int), x, -1, 0, 0⟩, 0⟩
theorem toPJ_pend (i : Nat) (x : Int) : toPJ (pend i x) = fresh (i : Int) x := by
  unfold toPJ pend fresh
  simp
theorem new_eq {now : Int} {nx : List Nat} : ∀ (i : Nat) (r : List (List Int)), (∀ j (h : j < r.length), nx.getD (i + j) 0 = (dueL (now - 1) r[j]).length) → (∀ ts ∈ r, ts.Pairwise (fun a b => a < b)) →
    ((rPendGo i r).filter fun p => decide (p.f0.f1 = now)).map toPJ = newFrom now nx i r
  | _, [], _, _ => rfl
  | i, ts :: r, hn, hp => by
    have h0 := hn 0 (by simp)
    rw [Nat.add_zero, List.getElem_cons_zero] at h0
    unfold newFrom
    rw [h0, due_filter (hp ts List.mem_cons_self)]
    show (((ts.map (pend i)) ++ rPendGo (i + 1) r).filter _).map toPJ = _
    rw [List.filter_append, List.map_append, new_eq (i + 1) r (fun j h => by
      have := hn (j + 1) (by simpa using h)
      rw [List.getElem_cons_succ] at this
      rw [← this]
      congr 1
      omega) (fun ts hts => hp ts (List.mem_cons_of_mem _ hts)), List.filter_map, List.map_map]
    congr 1
theorem pend_mem : ∀ (i : Nat) (r : List (List Int)) {p : S97}, p ∈ rPendGo i r → ∃ (j : Nat) (x : Int), i ≤ j ∧ j < i + r.length ∧ p = pend j x
  | _, [], _, h => by cases h
  | i, ts :: r, p, h => by
    rcases List.mem_append.1 (show p ∈ ts.map (pend i) ++ rPendGo (i + 1) r from h) with h | h
    · obtain ⟨x, _, rfl⟩ := List.mem_map.1 h
      exact ⟨i, x, Nat.le_refl _, by simp, rfl⟩
    · obtain ⟨j, x, h1, h2, h3⟩ := pend_mem (i + 1) r h
      exact ⟨j, x, by omega, by simp; omega, h3⟩
theorem rPend_pos {l : List S49} {rel : List (List Int)} (hA : Adm l rel) {p : S97} (hp : p ∈ rPendGo 0 rel) : 0 ≤ p.f0.f1 := by
  have key : ∀ (i : Nat) (r : List (List Int)), (∀ ts ∈ r, ∀ x ∈ ts, (0 : Int) ≤ x) → ∀ p ∈ rPendGo i r, 0 ≤ p.f0.f1 := by
    intro i r
    induction r generalizing i with
    | nil => intro _ p hp; cases hp
    | cons ts r ih =>
      intro h p hp
      rcases List.mem_append.1 (show p ∈ ts.map (pend i) ++ rPendGo (i + 1) r from hp) with hp | hp
      · obtain ⟨x, hx, rfl⟩ := List.mem_map.1 hp
        exact h ts List.mem_cons_self x hx
      · exact ih (i + 1) (fun ts hts => h ts (List.mem_cons_of_mem _ hts)) p hp
  refine key 0 rel (fun ts hts x hx => ?_) p hp
  obtain ⟨j, hj, rfl⟩ := List.mem_iff_getElem.1 hts
  exact hA.pos j hj x hx
theorem pw_inj : ∀ {W : List PJ}, (W.map (·.rel)).Pairwise (fun a b => a < b) → ∀ {x y : PJ}, x ∈ W → y ∈ W → x.rel = y.rel → x = y
  | [], _, _, _, h, _, _ => by cases h
  | a :: r, h, x, y, hx, hy, e => by
    rw [List.map_cons, List.pairwise_cons] at h
    rcases List.mem_cons.1 hx with h1 | h1
    · rcases List.mem_cons.1 hy with h2 | h2
      · rw [h1, h2]
      · have := h.1 _ (List.mem_map.2 ⟨y, h2, rfl⟩)
        rw [h1] at e
        omega
    · rcases List.mem_cons.1 hy with h2 | h2
      · have := h.1 _ (List.mem_map.2 ⟨x, h1, rfl⟩)
        rw [h2] at e
        omega
      · exact pw_inj h.2 h1 h2 e
theorem rel_uniq {l : List S49} {rel : List (List Int)} (hA : Adm l rel) {t : Int} {nx : List Nat} {W : List PJ} {out : List S34} (h : Rel l rel t nx W out) {x y : PJ} (hx : x ∈ W) (hy : y ∈ W) (e1 : x.task = y.task) (e2 : x.rel = y.rel) : x = y := by
  have jx := h.job x hx
  have hlen := hA.len
  have hi : x.task.toNat < rel.length := by have := jx.t0; have := jx.t1; omega
  have hie : (x.task.toNat : Int) = x.task := Int.toNat_of_nonneg jx.t0
  have hp := (hA.incr x.task.toNat hi).sublist (due_sub t _)
  rw [← h.fifo _ hi, List.pairwise_append] at hp
  exact pw_inj hp.2.1 (List.mem_filter.2 ⟨hx, tk_iff.2 hie.symm⟩) (List.mem_filter.2 ⟨hy, tk_iff.2 (by omega)⟩) e2
/-- The reference and the given simulation go in step. -/
structure Ref (l : List S49) (rel : List (List Int)) (t : Int) (st : RS) (s : Sim) : Prop where
  out : st.out.map conv64 = s.out
  wt : ((st.rows.filter (rOpen (t - 1))).map toPJ).Perm s.wt
  new : st.rows.filter (fun p => decide (t ≤ p.f0.f1)) = (rPendGo 0 rel).filter fun p => decide (t ≤ p.f0.f1)
  row : ∀ p ∈ st.rows, 0 ≤ p.f0.f0 ∧ p.f0.f0 < l.length ∧ 0 ≤ p.f0.f4 ∧ p.f0.f4 ≤ t ∧ 0 ≤ p.f1 ∧ p.f1 ≤ t
  len : st.rows.length = (rPendGo 0 rel).length
  outl : (st.out.length : Int) ≤ t
  runl : (st.run.length : Int) ≤ t
theorem Ref.due {l : List S49} {rel : List (List Int)} {t : Int} {st : RS} {s : Sim} (hA : Adm l rel) (hI : Inv l rel t s) (h : Ref l rel t st s) :
    ((st.rows.filter (rOpen t)).map toPJ).Perm (s.wt ++ newFrom t s.nx 0 rel) := by
  have h1 : st.rows.filter (rOpen (t - 1)) = (st.rows.filter (rOpen t)).filter fun p => decide (p.f0.f1 < t) := by
    rw [List.filter_filter]
    refine List.filter_congr fun p _ => ?_
    unfold rOpen
    by_cases c : p.f0.f1 < t
    · rw [decide_eq_true c, decide_eq_true (show p.f0.f1 ≤ t - 1 by omega), decide_eq_true (show p.f0.f1 ≤ t by omega)]; rfl
    · rw [decide_eq_false c, decide_eq_false (show ¬ p.f0.f1 ≤ t - 1 by omega)]; rfl
  have h2 : ((rPendGo 0 rel).filter fun p => decide (p.f0.f1 = t)) = (st.rows.filter (rOpen t)).filter fun p => !decide (p.f0.f1 < t) := by
    have e1 : ((rPendGo 0 rel).filter fun p => decide (p.f0.f1 = t)) = ((rPendGo 0 rel).filter fun p => decide (t ≤ p.f0.f1)).filter fun p => decide (p.f0.f1 = t) && decide (p.f0.f3 = 0) := by
      rw [List.filter_filter]
      refine List.filter_congr fun p hp => ?_
      obtain ⟨j, x, _, _, rfl⟩ := pend_mem 0 rel hp
      by_cases c : x = t
      · subst c; simp [pend]
      · simp [pend, c]
    rw [e1, ← h.new, List.filter_filter, List.filter_filter]
    refine List.filter_congr fun p _ => ?_
    unfold rOpen
    by_cases c : p.f0.f1 = t
    · rw [c]; simp
    · rcases Int.lt_or_le p.f0.f1 t with d | d
      · simp [c, d]
      · simp [c, show ¬ p.f0.f1 ≤ t by omega]
  have h3 := (List.filter_append_perm (fun p : S97 => decide (p.f0.f1 < t)) (st.rows.filter (rOpen t))).map toPJ
  rw [← h1, ← h2, List.map_append, new_eq (nx := s.nx) 0 rel (fun j hj => by rw [Nat.zero_add]; exact hI.nxe j hj) (fun ts hts => by
    obtain ⟨j, hj, rfl⟩ := List.mem_iff_getElem.1 hts
    exact hA.incr j hj)] at h3
  exact h3.symm.trans (h.wt.append_right _)
/-! One unit -/
theorem rHind_keep (t task : Int) (p : S97) : (rHind t task p).f0.f0 = p.f0.f0 ∧ (rHind t task p).f0.f1 = p.f0.f1 ∧ (rHind t task p).f0.f3 = p.f0.f3 ∧ (rHind t task p).f1 = p.f1 := by
  unfold rHind
  split <;> exact ⟨rfl, rfl, rfl, rfl⟩
theorem rHind_open (t task : Int) : (rOpen t ∘ rHind t task) = rOpen t := by
  funext p
  obtain ⟨_, a, b, _⟩ := rHind_keep t task p
  show rOpen t (rHind t task p) = _
  unfold rOpen
  rw [a, b]
theorem rHind_pj {t task : Int} {p : S97} (h : rOpen t p = true) : toPJ (rHind t task p) = hinder task (toPJ p) := by
  unfold rHind hinder
  by_cases c : p.f0.f0 < task
  · rw [if_pos ⟨h, c⟩, if_pos (show (toPJ p).task < task from c)]
    rfl
  · rw [if_neg (fun k => c k.2), if_neg (show ¬ (toPJ p).task < task from c)]
theorem map_hind {t task : Int} (A : List S97) : ((A.map (rHind t task)).filter (rOpen t)).map toPJ = ((A.filter (rOpen t)).map toPJ).map (hinder task) := by
  rw [List.filter_map, rHind_open, List.map_map, List.map_map]
  refine List.map_congr_left fun p hp => ?_
  exact rHind_pj (List.mem_filter.1 hp).2
theorem later_hind {t task : Int} (A : List S97) : (A.map (rHind t task)).filter (fun p => decide (t + 1 ≤ p.f0.f1)) = A.filter fun p => decide (t + 1 ≤ p.f0.f1) := by
  have e : ((fun p : S97 => decide (t + 1 ≤ p.f0.f1)) ∘ rHind t task) = fun p => decide (t + 1 ≤ p.f0.f1) := by
    funext p
    show decide (t + 1 ≤ (rHind t task p).f0.f1) = _
    rw [(rHind_keep t task p).2.1]
  rw [List.filter_map, e]
  refine (List.map_congr_left fun p hp => ?_).trans (List.map_id _)
  have := of_decide_eq_true (List.mem_filter.1 hp).2
  show rHind t task p = p
  unfold rHind rOpen
  rw [if_neg (by rw [decide_eq_false (show ¬ p.f0.f1 ≤ t by omega)]; simp)]
theorem row_hind {l : List S49} {t task : Int} {p : S97} (h : 0 ≤ p.f0.f0 ∧ p.f0.f0 < l.length ∧ 0 ≤ p.f0.f4 ∧ p.f0.f4 ≤ t ∧ 0 ≤ p.f1 ∧ p.f1 ≤ t) :
    0 ≤ (rHind t task p).f0.f0 ∧ (rHind t task p).f0.f0 < l.length ∧ 0 ≤ (rHind t task p).f0.f4 ∧ (rHind t task p).f0.f4 ≤ t + 1 ∧ 0 ≤ (rHind t task p).f1 ∧ (rHind t task p).f1 ≤ t + 1 := by
  obtain ⟨a, b, c, d, e, f⟩ := h
  unfold rHind
  split
  · exact ⟨a, b, by show 0 ≤ p.f0.f4 + 1; omega, by show p.f0.f4 + 1 ≤ t + 1; omega, e, by show p.f1 ≤ t + 1; omega⟩
  · exact ⟨a, b, c, by omega, e, by omega⟩
theorem new_later {l : List S49} {rel : List (List Int)} {t : Int} {st : RS} {s : Sim} (h : Ref l rel t st s) : st.rows.filter (fun p => decide (t + 1 ≤ p.f0.f1)) = (rPendGo 0 rel).filter fun p => decide (t + 1 ≤ p.f0.f1) := by
  have e : ∀ (rows : List S97), rows.filter (fun p => decide (t + 1 ≤ p.f0.f1)) = (rows.filter fun p => decide (t ≤ p.f0.f1)).filter fun p => decide (t + 1 ≤ p.f0.f1) := fun rows => by
    rw [List.filter_filter]
    refine List.filter_congr fun p _ => ?_
    by_cases c : t + 1 ≤ p.f0.f1
    · rw [decide_eq_true c, decide_eq_true (show t ≤ p.f0.f1 by omega)]; rfl
    · rw [decide_eq_false c]; rfl
  rw [e st.rows, h.new, ← e]
theorem ref_step {l : List S49} {rel : List (List Int)} (hA : Adm l rel) {k : Nat} (hk : 300 ≤ k) (hL : (rPendGo 0 rel).length ≤ 1000000) {t : Int} {st : RS} {s : Sim} (hI : Inv l rel t s) (h : Ref l rel t st s) (t0 : 0 ≤ t) (t1 : t ≤ 1000) :
    ∃ st', rUnit k (l.map to93) t st = some st' ∧ Ref l rel (t + 1) st' (stepV l rel t s) := by
  have hok : rOk (l.map to93) st = true := by
    unfold rOk
    rw [Bool.and_eq_true]
    have := h.len
    have := h.outl
    have := h.runl
    refine ⟨decide_eq_true ⟨by omega, by omega, by omega⟩, List.all_eq_true.2 fun p hp => ?_⟩
    obtain ⟨a, b, c, d, e, f⟩ := h.row p hp
    exact decide_eq_true ⟨a, by rw [List.length_map]; exact b, c, by omega, e, by omega⟩
  unfold rUnit
  rw [if_pos hok]
  obtain ⟨b, hb, hB⟩ := pick_spec hA.v hk (now := t) (rows := st.rows) (fun p hp => ⟨(h.row p hp).1, (h.row p hp).2.1⟩) st.rows.length 0 (-1) (by omega) (.inl ⟨rfl, fun p hp => by cases hp⟩)
  rw [show ((0 : Nat) : Int) = 0 from rfl] at hb
  rw [hb]
  simp only [Option.bind_some]
  have hW := h.due hA hI
  have hR := inv_rel hA hI t0
  have et : t + 1 - 1 = t := by omega
  rcases hB with ⟨rfl, hn⟩ | ⟨b, hbl, rfl, _, hob, hmin⟩
  · rw [if_pos (by omega)]
    rw [List.take_length] at hn
    have hf : st.rows.filter (rOpen t) = [] := List.filter_eq_nil_iff.2 fun p hp => by rw [hn p hp]; simp
    rw [hf, List.map_nil] at hW
    have hw := hW.nil_eq.symm
    refine ⟨_, rfl, ?_⟩
    rw [step_nil l rel t s hw]
    refine ⟨h.out, by rw [et]; show ((st.rows.filter (rOpen t)).map toPJ).Perm []; rw [hf]; exact List.Perm.nil, (show st.rows.filter (fun p => decide (t + 1 ≤ p.f0.f1)) = _ from new_later h), fun p hp => ?_, h.len, by have := h.outl; show (st.out.length : Int) ≤ t + 1; omega, by have := h.runl; show ((st.run ++ [-1]).length : Int) ≤ t + 1; rw [List.length_append, List.length_singleton]; omega⟩
    obtain ⟨a, b, c, d, e, f⟩ := h.row p hp
    exact ⟨a, b, c, by omega, e, by omega⟩
  · rw [if_neg (by omega)]
    rw [List.take_length] at hmin
    obtain ⟨r, hr⟩ : ∃ r, r = st.rows[b] := ⟨_, rfl⟩
    rw [← hr] at hob hmin
    obtain ⟨A, hAe⟩ : ∃ A, A = st.rows.take b := ⟨_, rfl⟩
    obtain ⟨B, hBe⟩ : ∃ B, B = st.rows.drop (b + 1) := ⟨_, rfl⟩
    have hrows : st.rows = A ++ r :: B := by rw [hAe, hBe, hr, ← List.drop_eq_getElem_cons hbl, List.take_append_drop]
    have hAl : A.length = b := by rw [hAe, List.length_take]; omega
    have hrm : r ∈ st.rows := by rw [hrows]; simp
    obtain ⟨g0, g1, g2, g3, g4, g5⟩ := h.row r hrm
    have hrel : r.f0.f1 ≤ t := by
      unfold rOpen at hob
      rw [Bool.and_eq_true] at hob
      exact of_decide_eq_true hob.1
    have hfin : r.f0.f3 = 0 := by
      unfold rOpen at hob
      rw [Bool.and_eq_true] at hob
      exact of_decide_eq_true hob.2
    -- the chosen job
    have hmW : toPJ r ∈ s.wt ++ newFrom t s.nx 0 rel := hW.mem_iff.1 (List.mem_map.2 ⟨r, List.mem_filter.2 ⟨hrm, hob⟩, rfl⟩)
    rcases step_cases l rel t s with ⟨hw, _⟩ | ⟨pre, p, post, hw, hm, hs⟩
    · rw [hw] at hmW; cases hmW
    have hp : toPJ r = p := by
      have hpW : p ∈ s.wt ++ newFrom t s.nx 0 rel := by rw [hw]; simp
      obtain ⟨y, hy, hyp⟩ := List.mem_map.1 (hW.mem_iff.2 hpW)
      obtain ⟨hy1, hy2⟩ := List.mem_filter.1 hy
      have n1 := hmin y hy1 hy2
      rw [hyp] at n1
      have n2 : ¬ kLt l (toPJ r) p := by
        rw [hw] at hmW
        rcases List.mem_append.1 hmW with h1 | h1
        · exact hm _ (List.mem_append_left _ h1)
        · rcases List.mem_cons.1 h1 with h1 | h1
          · rw [h1]; exact kLt_irrefl _
          · exact hm _ (List.mem_append_right _ h1)
      refine rel_uniq hA hR hmW hpW ?_ ?_
      · unfold kLt at n1 n2; omega
      · unfold kLt at n1 n2; omega
    rw [hw] at hW
    -- the other ones
    have hX : ((A.filter (rOpen t)).map toPJ ++ (B.filter (rOpen t)).map toPJ).Perm (pre ++ post) := by
      have h1 : ((st.rows.filter (rOpen t)).map toPJ) = (A.filter (rOpen t)).map toPJ ++ toPJ r :: (B.filter (rOpen t)).map toPJ := by
        rw [hrows, List.filter_append, List.filter_cons_of_pos hob, List.map_append, List.map_cons]
      rw [h1, hp] at hW
      exact ((List.perm_middle.symm.trans hW).trans List.perm_middle).cons_inv
    have hX' : (((A.map (rHind t r.f0.f0)).filter (rOpen t)).map toPJ ++ ((B.map (rHind t r.f0.f0)).filter (rOpen t)).map toPJ).Perm (pre.map (hinder p.task) ++ post.map (hinder p.task)) := by
      have e : r.f0.f0 = p.task := by rw [← hp]; rfl
      have := hX.map (hinder p.task)
      rw [List.map_append, List.map_append] at this
      rw [map_hind, map_hind, e]
      exact this
    have hrr : rHind t r.f0.f0 r = r := by unfold rHind; rw [if_neg (fun k => by have := k.2; omega)]
    have hrd : rd_T97 st.rows (b : Int) = r := by rw [rd97_eq hbl, hr]
    have hr1 : rd_T97 (st.rows.map (rHind t r.f0.f0)) (b : Int) = r := by
      rw [rd97_eq (by rw [List.length_map]; exact hbl), List.getElem_map, ← hr, hrr]
    have hset : ∀ x, (st.rows.map (rHind t r.f0.f0)).set b x = A.map (rHind t r.f0.f0) ++ x :: B.map (rHind t r.f0.f0) := fun x => by
      rw [hrows, List.map_append, List.map_cons, List.set_append_right _ _ (by rw [List.length_map, hAl]; exact Nat.le_refl _), List.length_map, hAl, Nat.sub_self, List.set_cons_zero]
    refine ⟨_, rfl, ?_⟩
    have hdo : rDo (l.map to93) t st (b : Int) = rExec (l.map to93) t st (b : Int) r.f0.f0 (rInc (rBeg t r)) := by
      unfold rDo
      rw [hrd, hr1]
    rw [hdo]
    obtain ⟨x, hx⟩ : ∃ x, x = rInc (rBeg t r) := ⟨_, rfl⟩
    have hx1 : x.f1 = r.f1 + 1 := by rw [hx]; unfold rInc rBeg; split <;> rfl
    have hx0 : x.f0.f0 = r.f0.f0 ∧ x.f0.f1 = r.f0.f1 ∧ x.f0.f3 = r.f0.f3 ∧ x.f0.f4 = r.f0.f4 := by rw [hx]; unfold rInc rBeg; split <;> exact ⟨rfl, rfl, rfl, rfl⟩
    have hxp : toPJ x = runJob t p := by
      rw [← hp, hx]
      unfold toPJ runJob rInc rBeg
      by_cases c : r.f1 = 0
      · simp [c]
      · have c2 : r.f1 + 1 ≠ 0 := by omega
        simp [c, c2]
    have hxs : x.f0.f2 = (runJob t p).start := by
      rw [← hxp]
      show _ = if x.f1 = 0 then 0 else x.f0.f2
      rw [if_neg (by omega)]
    rw [← hx]
    have hcost : (rd_T93 (l.map to93) r.f0.f0).f0 = (rd_T49 l p.task).f0 := by rw [rd93_to l g0 g1, ← hp]; rfl
    have hdone : p.done + 1 = x.f1 := by rw [hx1, ← hp]; rfl
    have hnew : ∀ y : S97, y.f0.f1 = r.f0.f1 → (A.map (rHind t r.f0.f0) ++ y :: B.map (rHind t r.f0.f0)).filter (fun p => decide (t + 1 ≤ p.f0.f1)) = (rPendGo 0 rel).filter fun p => decide (t + 1 ≤ p.f0.f1) := fun y hy => by
      rw [← new_later h, hrows, List.filter_append, List.filter_append, List.filter_cons_of_neg (by simp; omega), List.filter_cons_of_neg (by simp; omega), later_hind, later_hind]
    have hrow : ∀ y : S97, (0 ≤ y.f0.f0 ∧ y.f0.f0 < l.length ∧ 0 ≤ y.f0.f4 ∧ y.f0.f4 ≤ t + 1 ∧ 0 ≤ y.f1 ∧ y.f1 ≤ t + 1) → ∀ q ∈ A.map (rHind t r.f0.f0) ++ y :: B.map (rHind t r.f0.f0), 0 ≤ q.f0.f0 ∧ q.f0.f0 < l.length ∧ 0 ≤ q.f0.f4 ∧ q.f0.f4 ≤ t + 1 ∧ 0 ≤ q.f1 ∧ q.f1 ≤ t + 1 := fun y hy q hq => by
      rcases List.mem_append.1 hq with hq | hq
      · obtain ⟨z, hz, rfl⟩ := List.mem_map.1 hq
        exact row_hind (h.row z (by rw [hrows]; exact List.mem_append_left _ hz))
      · rcases List.mem_cons.1 hq with rfl | hq
        · exact hy
        · obtain ⟨z, hz, rfl⟩ := List.mem_map.1 hq
          exact row_hind (h.row z (by rw [hrows]; exact List.mem_append_right _ (List.mem_cons_of_mem _ hz)))
    have hlen : ∀ y : S97, (A.map (rHind t r.f0.f0) ++ y :: B.map (rHind t r.f0.f0)).length = (rPendGo 0 rel).length := fun y => by
      rw [← h.len, hrows]; simp
    unfold rExec
    rw [hcost, Int.toNat_natCast, hset, hset]
    rcases hs with ⟨hd, hs⟩ | ⟨hd, hs⟩
    · rw [if_pos (by rw [← hdone]; exact hd), hs]
      have hno : rOpen t (rStop t x) = false := by
        unfold rOpen rStop
        rw [decide_eq_false (show ¬ t + 1 = 0 by omega), Bool.and_false]
      refine ⟨?_, ?_, hnew _ hx0.2.1, hrow _ ⟨?_, ?_, ?_, ?_, ?_, ?_⟩, hlen _, ?_, ?_⟩
      · show (st.out ++ [(rStop t x).f0]).map conv64 = s.out ++ [jobOf { runJob t p with fin := t + 1 }]
        rw [List.map_append, h.out]
        congr 1
        show [conv64 (rStop t x).f0] = _
        congr 1
        show (⟨x.f0.f0, x.f0.f1, x.f0.f2, t + 1, x.f0.f4⟩ : S34) = ⟨p.task, p.rel, (runJob t p).start, t + 1, p.blk⟩
        rw [hx0.1, hx0.2.1, hx0.2.2.2, hxs, ← hp]
        rfl
      · rw [et]
        show (((A.map (rHind t r.f0.f0) ++ rStop t x :: B.map (rHind t r.f0.f0)).filter (rOpen t)).map toPJ).Perm (pre.map (hinder p.task) ++ post.map (hinder p.task))
        rw [List.filter_append, List.filter_cons_of_neg (by rw [hno]; simp), List.map_append]
        exact hX'
      · show 0 ≤ x.f0.f0; rw [hx0.1]; exact g0
      · show x.f0.f0 < l.length; rw [hx0.1]; exact g1
      · show 0 ≤ x.f0.f4; rw [hx0.2.2.2]; exact g2
      · show x.f0.f4 ≤ t + 1; rw [hx0.2.2.2]; omega
      · show 0 ≤ x.f1; omega
      · show x.f1 ≤ t + 1; omega
      · have := h.outl
        show ((st.out ++ [(rStop t x).f0]).length : Int) ≤ t + 1
        rw [List.length_append, List.length_singleton]; omega
      · have := h.runl
        show ((st.run ++ [r.f0.f0]).length : Int) ≤ t + 1
        rw [List.length_append, List.length_singleton]; omega
    · rw [if_neg (by rw [← hdone]; exact hd), hs]
      have hyes : rOpen t x = true := by
        unfold rOpen at hob ⊢
        rw [hx0.2.1, hx0.2.2.1]
        exact hob
      refine ⟨h.out, ?_, hnew _ hx0.2.1, hrow _ ⟨?_, ?_, ?_, ?_, ?_, ?_⟩, hlen _, ?_, ?_⟩
      · rw [et]
        show (((A.map (rHind t r.f0.f0) ++ x :: B.map (rHind t r.f0.f0)).filter (rOpen t)).map toPJ).Perm (pre.map (hinder p.task) ++ runJob t p :: post.map (hinder p.task))
        rw [List.filter_append, List.filter_cons_of_pos hyes, List.map_append, List.map_cons, hxp]
        exact (List.perm_middle.trans (hX'.cons _)).trans List.perm_middle.symm
      · rw [hx0.1]; exact g0
      · rw [hx0.1]; exact g1
      · rw [hx0.2.2.2]; exact g2
      · rw [hx0.2.2.2]; omega
      · omega
      · omega
      · have := h.outl
        show (st.out.length : Int) ≤ t + 1
        omega
      · have := h.runl
        show ((st.run ++ [r.f0.f0]).length : Int) ≤ t + 1
        rw [List.length_append, List.length_singleton]; omega
theorem ref_go {l : List S49} {rel : List (List Int)} (hA : Adm l rel) {k : Nat} (hk : 300 ≤ k) (hL : (rPendGo 0 rel).length ≤ 1000000) : ∀ (n t : Nat) (st : RS), t + n ≤ 1000 → Ref l rel (t : Int) st (stAt l rel t) →
    ∃ st', rGo k (l.map to93) n (t : Int) st = some st' ∧ Ref l rel ((t + n : Nat) : Int) st' (stAt l rel (t + n))
  | 0, t, st, _, h => ⟨st, rfl, h⟩
  | n + 1, t, st, ht, h => by
    obtain ⟨st1, e1, h1⟩ := ref_step hA hk hL (inv_at hA t) h (by omega) (by omega)
    rw [show (t : Int) + 1 = ((t + 1 : Nat) : Int) by omega] at h1
    obtain ⟨st2, e2, h2⟩ := ref_go hA hk hL n (t + 1) st1 (by omega) h1
    refine ⟨st2, ?_, by rw [show t + (n + 1) = t + 1 + n by omega]; exact h2⟩
    unfold rGo
    rw [e1]
    exact e2
theorem ref_start {l : List S49} {rel : List (List Int)} (hA : Adm l rel) : Ref l rel ((0 : Nat) : Int) ⟨rPendGo 0 rel, [], []⟩ (stAt l rel 0) := by
  refine ⟨rfl, ?_, rfl, fun p hp => ?_, rfl, by simp, by simp⟩
  · have hf : (rPendGo 0 rel).filter (rOpen (((0 : Nat) : Int) - 1)) = [] := List.filter_eq_nil_iff.2 fun p hp => by
      have := rPend_pos hA hp
      unfold rOpen
      rw [decide_eq_false (show ¬ p.f0.f1 ≤ ((0 : Nat) : Int) - 1 by omega)]
      simp
    show (((rPendGo 0 rel).filter _).map toPJ).Perm []
    rw [hf]
    exact List.Perm.nil
  · obtain ⟨j, x, _, h2, rfl⟩ := pend_mem 0 rel hp
    have := hA.len
    exact ⟨by show (0 : Int) ≤ j; omega, by show (j : Int) < l.length; omega, Int.le_refl _, Int.le_refl _, Int.le_refl _, Int.le_refl _⟩
/-- The reference's finished jobs. -/
theorem ref_sim {l : List S49} {rel : List (List Int)} (hA : Adm l rel) {k : Nat} (hk : 300 ≤ k) {a : Int} (a0 : 0 ≤ a) (a1 : a ≤ 1000) (hr : ∀ r ∈ rel, r.length ≤ 1000) :
    ∃ out run, ontimeref43_Simulate.f k (l.map to93) rel a = some (out, run) ∧ out.map conv64 = simV l rel a ∧ out.length ≤ 1000 := by
  have hlen := hA.len
  have h20 := (vld_of hA.v).1
  have hL := rPend_len 0 rel hr
  obtain ⟨st, e, h⟩ := ref_go hA hk (by omega) a.toNat 0 ⟨rPendGo 0 rel, [], []⟩ (by omega) (ref_start hA)
  refine ⟨st.out, st.run, ?_, ?_, by have := h.outl; omega⟩
  · unfold ontimeref43_Simulate.f
    have hf : rFit (l.map to93) rel a = true := by
      unfold rFit
      rw [Bool.and_eq_true]
      exact ⟨decide_eq_true ⟨by rw [List.length_map]; exact hlen, by rw [List.length_map]; exact h20, a0, a1⟩, List.all_eq_true.2 fun r hr' => decide_eq_true (hr r hr')⟩
    rw [if_pos hf]
    rw [show ((0 : Nat) : Int) = 0 from rfl] at e
    rw [e]
    rfl
  · rw [h.out, simV_st, Nat.zero_add]
end Go.Proofs.Ytcmifojplgmgkaa.CEv
