/- The analysis is safe: a job of a task that is not late ends at most its response time after its release. -/
import Derived.Test.YtcmifojplgmgkaaCBlk
import Derived.Test.YtcmifojplgmgkaaRNum
set_option linter.unusedVariables false
set_option linter.unusedSectionVars false
namespace Go.Proofs.Ytcmifojplgmgkaa.CEv
open Go.RowKit Go.Proofs.Ytcmifojplgmgkaa.P Go.Proofs.YtcmifojplgmgkaaW.PrintWords Go.Proofs.YtcmifojplgmgkaaW.PrintMore Evs
/-! The rest of the work of level i -/
def remP (l : List S49) (i : Int) (p : PJ) : Int := if p.task ≤ i then (rd_T49 l p.task).f0 - p.done else 0
def rem (l : List S49) (i : Int) (W : List PJ) : Int := (W.map (remP l i)).sum
theorem rem_nil (l : List S49) (i : Int) : rem l i [] = 0 := rfl
theorem rem_cons (l : List S49) (i : Int) (p : PJ) (W : List PJ) : rem l i (p :: W) = remP l i p + rem l i W := by unfold rem; rw [List.map_cons, List.sum_cons]
theorem rem_append (l : List S49) (i : Int) (V W : List PJ) : rem l i (V ++ W) = rem l i V + rem l i W := by unfold rem; rw [List.map_append, List.sum_append]
theorem rem_hinder (l : List S49) (i t : Int) (W : List PJ) : rem l i (W.map (hinder t)) = rem l i W := by
  unfold rem
  rw [List.map_map]
  congr 1
  refine List.map_congr_left fun x _ => ?_
  obtain ⟨_, _, e3, _, e5, _⟩ := r_hinder (l := l) t x
  show remP l i (hinder t x) = remP l i x
  unfold remP
  rw [e3, e5]
theorem remP_nonneg {l : List S49} {i t : Int} {p : PJ} (h : JI l t p) : 0 ≤ remP l i p ∧ (p.task ≤ i → 1 ≤ remP l i p) := by
  have := h.d1
  unfold remP
  split
  · omega
  · omega
theorem rem_nonneg {l : List S49} {i t : Int} : ∀ {W : List PJ}, (∀ p ∈ W, JI l t p) → 0 ≤ rem l i W ∧ (∀ p ∈ W, p.task ≤ i → 1 ≤ rem l i W)
  | [], _ => ⟨Int.le_refl _, fun p hp => by cases hp⟩
  | a :: r, h => by
    obtain ⟨h1, h2⟩ := rem_nonneg (i := i) (W := r) (fun p hp => h p (List.mem_cons_of_mem _ hp))
    obtain ⟨g1, g2⟩ := remP_nonneg (i := i) (h a List.mem_cons_self)
    rw [rem_cons]
    refine ⟨by omega, fun p hp hi => ?_⟩
    rcases List.mem_cons.1 hp with rfl | hp
    · have := g2 hi; omega
    · have := h2 p hp hi; omega
theorem rem_zero {l : List S49} {i : Int} : ∀ {W : List PJ}, (∀ p ∈ W, ¬ p.task ≤ i) → rem l i W = 0
  | [], _ => rfl
  | a :: r, h => by
    rw [rem_cons, rem_zero (fun p hp => h p (List.mem_cons_of_mem _ hp))]
    unfold remP
    rw [if_neg (h a List.mem_cons_self)]
    rfl
/-- The work of level i that is released before a time, of the tasks from j on. -/
def workFrom (l : List S49) (i : Int) (t : Int) : Nat → List (List Int) → Int
  | _, [] => 0
  | j, ts :: r => (if (j : Int) ≤ i then (rd_T49 l (j : Int)).f0 * ((dueL (t - 1) ts).length : Int) else 0) + workFrom l i t (j + 1) r
theorem work_step {l : List S49} {i : Int} {t : Int} {nx : List Nat} : ∀ (j : Nat) (r : List (List Int)), (∀ q (h : q < r.length), nx.getD (j + q) 0 = (dueL (t - 1) r[q]).length) →
    workFrom l i (t + 1) j r = workFrom l i t j r + rem l i (newFrom t nx j r)
  | _, [], _ => rfl
  | j, ts :: r, h => by
    unfold workFrom newFrom
    have ih := work_step (l := l) (i := i) (t := t) (nx := nx) (j + 1) r (fun q hq => by
      have := h (q + 1) (by simpa using hq)
      rw [show j + 1 + q = j + (q + 1) by omega]
      exact this)
    have h0 := h 0 (by simp)
    rw [Nat.add_zero] at h0
    have hmore := due_more (a := t - 1) (b := t) (by omega) ts
    have e0 : (ts :: r)[0] = ts := rfl
    rw [e0] at h0
    rw [rem_append, ih, show t + 1 - 1 = t by omega, hmore, List.length_append, h0]
    have hr : ∀ zs : List Int, rem l i (zs.map (fresh (j : Int))) = if (j : Int) ≤ i then (rd_T49 l (j : Int)).f0 * (zs.length : Int) else 0 := by
      intro zs
      induction zs with
      | nil => rw [List.map_nil, rem_nil]; split <;> simp
      | cons z zs ih =>
        rw [List.map_cons, rem_cons, ih]
        unfold remP fresh
        dsimp only
        split
        · rw [List.length_cons, Int.natCast_add, Int.mul_add]; simp; omega
        · rfl
    rw [hr]
    split
    · rw [Int.natCast_add, Int.mul_add]; omega
    · omega
/-- How many releases fall into a window. -/
theorem gap_count {T : Int} (hT : 1 ≤ T) : ∀ (zs : List Int) (a b : Int), zs.Pairwise (fun x y => x + T ≤ y) → (∀ x ∈ zs, a ≤ x ∧ x ≤ b) → zs ≠ [] → ((zs.length : Int) - 1) * T ≤ b - a
  | [], _, _, _, _, h => absurd rfl h
  | [x], a, b, _, hb, _ => by
    have := hb x List.mem_cons_self
    simp
    omega
  | x :: y :: r, a, b, hp, hb, _ => by
    have hx := hb x List.mem_cons_self
    have hp' := List.pairwise_cons.1 hp
    have ih := gap_count hT (y :: r) (x + T) b hp'.2 (fun z hz => ⟨hp'.1 z hz, (hb z (List.mem_cons_of_mem _ hz)).2⟩) (by simp)
    rw [List.length_cons] at ih ⊢
    have e : (((y :: r).length + 1 : Nat) : Int) - 1 = (((r.length + 1 : Nat) : Int) - 1) + 1 := by rw [List.length_cons]; omega
    rw [e, Int.add_mul]
    omega
theorem due_window {ts : List Int} {T s r : Int} (hT : 1 ≤ T) (hp : ts.Pairwise (fun x y => x + T ≤ y)) (hr : 1 ≤ r) : ((dueL (s + r - 1) ts).length : Int) - ((dueL (s - 1) ts).length : Int) ≤ cdiv r T := by
  have hm := due_more (a := s - 1) (b := s + r - 1) (by omega) ts
  obtain ⟨zs, hz⟩ : ∃ zs, zs = dueL (s + r - 1) (ts.drop (dueL (s - 1) ts).length) := ⟨_, rfl⟩
  rw [← hz] at hm
  rw [hm, List.length_append]
  by_cases h0 : zs = []
  · rw [h0]
    have := cdiv_nonneg (w := r) (p := T) (by omega) hT
    simp
    omega
  · have hsub : zs.Pairwise (fun x y => x + T ≤ y) := by
      have : (dueL (s + r - 1) ts).Pairwise (fun x y => x + T ≤ y) := hp.sublist (due_sub _ _)
      rw [hm] at this
      exact (List.pairwise_append.1 this).2.1
    have hbd : ∀ x ∈ zs, s ≤ x ∧ x ≤ s + r - 1 := by
      intro x hx
      have h1 : x ≤ s + r - 1 := (mem_due (by rw [← hz]; exact hx)).1
      refine ⟨?_, h1⟩
      -- the first that is not due stands ahead
      cases hts : ts.drop (dueL (s - 1) ts).length with
      | nil => rw [hts] at hz; rw [hz] at hx; cases hx
      | cons y r' =>
        have hy : s ≤ y := by
          rcases Int.lt_or_le y s with c | c
          · exfalso
            have h2 : dueL (s - 1) ts = dueL (s - 1) ts ++ dueL (s - 1) (ts.drop (dueL (s - 1) ts).length) := due_more (Int.le_refl _) ts
            rw [hts] at h2
            have h3 : dueL (s - 1) (y :: r') ≠ [] := by
              unfold dueL
              rw [List.takeWhile_cons_of_pos (by simp; omega)]
              simp
            have h4 := congrArg List.length h2
            rw [List.length_append] at h4
            exact h3 (List.eq_nil_of_length_eq_zero (by omega))
          · exact c
        have hx2 : x ∈ y :: r' := by rw [← hts]; exact (mem_due (by rw [← hz]; exact hx)).2
        rcases List.mem_cons.1 hx2 with rfl | hx2
        · exact hy
        · have hp2 : (y :: r').Pairwise (fun x y => x + T ≤ y) := by rw [← hts]; exact hp.sublist (List.drop_sublist _ _)
          have := (List.pairwise_cons.1 hp2).1 x hx2
          omega
    have hg := gap_count hT zs s (s + r - 1) hsub hbd h0
    have : (zs.length : Int) ≤ cdiv r T := by
      unfold cdiv
      rw [Int.le_ediv_iff_mul_le (by omega)]
      have : ((zs.length : Int) - 1) * T = (zs.length : Int) * T - T := by rw [Int.sub_mul, Int.one_mul]
      omega
    omega
/-- The work of level i that is released in a window. -/
theorem work_window {l : List S49} {rel : List (List Int)} (hA : Adm l rel) {i : Nat} (hi : i < l.length) {s r : Int} (hr : 1 ≤ r) (hrd : r ≤ (rd_T49 l (i : Int)).f1) : ∀ (n j : Nat), j + n = rel.length →
    workFrom l (i : Int) (s + r) j (rel.drop j) - workFrom l (i : Int) s j (rel.drop j) ≤ isum ((l.drop j).take (i - j)) r + (if j ≤ i then (rd_T49 l (i : Int)).f0 else 0) := by
  have hlen := hA.len
  intro n
  induction n with
  | zero =>
    intro j hj
    rw [List.drop_of_length_le (by omega), if_neg (by omega), show i - j = 0 by omega, List.take_zero]
    exact Int.le_refl 0
  | succ n ih =>
    intro j hj
    have hjr : j < rel.length := by omega
    have hjl : j < l.length := by omega
    rw [List.drop_eq_getElem_cons hjr]
    unfold workFrom
    have h := ih (j + 1) (by omega)
    have hc := hA.cost (i := (j : Int)) (by omega) (by omega)
    have hw := due_window (s := s) (r := r) hc.2.2 (hA.gap j hjr) hr
    by_cases hji : j ≤ i
    · rw [if_pos (by omega), if_pos (by omega), if_pos hji]
      by_cases he : j = i
      · subst he
        rw [if_neg (by omega), show j - (j + 1) = 0 by omega, List.take_zero] at h
        rw [show j - j = 0 by omega, List.take_zero]
        have h1 : cdiv r (rd_T49 l (j : Int)).f1 ≤ 1 := by
          rw [cdiv_le_iff hc.2.2]
          omega
        have h2 : (rd_T49 l (j : Int)).f0 * (((dueL (s + r - 1) rel[j]).length : Int) - ((dueL (s - 1) rel[j]).length : Int)) ≤ (rd_T49 l (j : Int)).f0 * 1 := Int.mul_le_mul_of_nonneg_left (by omega) (by omega)
        rw [Int.mul_sub] at h2
        have h3 : isum [] r = 0 := rfl
        rw [h3] at h ⊢
        omega
      · rw [if_pos (by omega)] at h
        have e : (l.drop j).take (i - j) = rd_T49 l (j : Int) :: (l.drop (j + 1)).take (i - (j + 1)) := by
          rw [List.drop_eq_getElem_cons hjl, show i - j = (i - (j + 1)) + 1 by omega, List.take_succ_cons, rd49_at l j hjl]
        rw [e]
        unfold isum
        have h2 : (rd_T49 l (j : Int)).f0 * (((dueL (s + r - 1) rel[j]).length : Int) - ((dueL (s - 1) rel[j]).length : Int)) ≤ (rd_T49 l (j : Int)).f0 * cdiv r (rd_T49 l (j : Int)).f1 := Int.mul_le_mul_of_nonneg_left hw (by omega)
        rw [Int.mul_sub] at h2
        omega
    · rw [if_neg (by omega), if_neg (by omega), if_neg hji]
      rw [if_neg (by omega), show i - (j + 1) = 0 by omega, List.take_zero] at h
      rw [show i - j = 0 by omega, List.take_zero]
      omega
/-- The units of lower tasks while level i waits. -/
structure Busy (l : List S49) (i : Int) (W : List PJ) (n A K : Int) : Prop where
  le : n ≤ A - rem l i W + K
  k : K ≤ blockV l i
  c : ∀ p ∈ W, i < p.task → r1 l p ≤ i → ∀ s, inSec (rd_T49 l p.task).f3 p.done = some s → K ≤ p.done - s.f1 - 1
theorem busy_step {l : List S49} {rel : List (List Int)} (hA : Adm l rel) {i : Int} (i0 : 0 ≤ i) {t : Int} {s : Sim} (h : Inv l rel t s) (hBk : Blk l s.wt) (ht : 0 ≤ t) {n A K : Int} (hB : Busy l i s.wt n A K)
    (hq : ∃ q ∈ s.wt ++ newFrom t s.nx 0 rel, q.task ≤ i) : ∃ K', Busy l i (stepV l rel t s).wt (n + 1) (A + rem l i (newFrom t s.nx 0 rel)) K' := by
  have hR := inv_rel hA h ht
  have hW := blk_rel hA h hBk ht
  obtain ⟨q, hqW, hqi⟩ := hq
  have hle : n ≤ A + rem l i (newFrom t s.nx 0 rel) - rem l i (s.wt ++ newFrom t s.nx 0 rel) + K := by
    rw [rem_append]
    have := hB.le
    omega
  have hc : ∀ p ∈ s.wt ++ newFrom t s.nx 0 rel, i < p.task → r1 l p ≤ i → ∀ s', inSec (rd_T49 l p.task).f3 p.done = some s' → K ≤ p.done - s'.f1 - 1 := fun p hp h1 h2 s' hs' => by
    rcases List.mem_append.1 hp with hp' | hp'
    · exact hB.c p hp' h1 h2 s' hs'
    · have jp := hR.job p hp
      have hd : p.done = 0 := by obtain ⟨j, x, _, _, rfl, _⟩ := newFrom_mem hp'; rfl
      have := (rank_zero hA jp.t0 jp.t1 (by omega)).1
      omega
  rcases step_cases l rel t s with ⟨hw, _⟩ | ⟨pre, b, post, hw, hm, hs⟩
  · rw [hw] at hqW; cases hqW
  · rw [hw] at hR hW hqW hle hc
    have jb := hR.job b (by simp)
    have hin : ∀ y, y ∈ pre ++ post → y ∈ pre ++ b :: post := fun y hy => by
      rcases List.mem_append.1 hy with hy | hy
      · exact List.mem_append_left _ hy
      · exact List.mem_append_right _ (List.mem_cons_of_mem _ hy)
    have hkey := key_ne hA hR hm
    have hmem : ∀ p, p ∈ pre.map (hinder b.task) ++ runJob t b :: post.map (hinder b.task) → p = runJob t b ∨ ∃ y ∈ pre ++ post, p = hinder b.task y := fun q hq => by
      rcases List.mem_append.1 hq with hq | hq
      · obtain ⟨y, hy, rfl⟩ := List.mem_map.1 hq
        exact .inr ⟨y, List.mem_append_left _ hy, rfl⟩
      · rcases List.mem_cons.1 hq with rfl | hq
        · exact .inl rfl
        · obtain ⟨y, hy, rfl⟩ := List.mem_map.1 hq
          exact .inr ⟨y, List.mem_append_right _ hy, rfl⟩
    obtain ⟨K', hK', hKb⟩ : ∃ K', ((b.task ≤ i ∧ K' = K) ∨ (i < b.task ∧ K' = K + 1)) ∧ K' ≤ blockV l i ∧ ∀ p, p ∈ pre.map (hinder b.task) ++ runJob t b :: post.map (hinder b.task) → i < p.task → r1 l p ≤ i → ∀ s', inSec (rd_T49 l p.task).f3 p.done = some s' → K' ≤ p.done - s'.f1 - 1 := by
      by_cases hb : b.task ≤ i
      · refine ⟨K, .inl ⟨hb, rfl⟩, hB.k, fun p hp h1 h2 s' hs' => ?_⟩
        rcases hmem p hp with rfl | ⟨y, hy, rfl⟩
        · exact absurd h1 (by show ¬ i < b.task; omega)
        · obtain ⟨e1, e2, e3, e4, e5, e6, e7, e8⟩ := r_hinder (l := l) b.task y
          rw [e3] at h1 hs'
          rw [e1] at h2
          rw [e5] at hs' ⊢
          exact hc y (hin y hy) h1 h2 s' hs'
      · have hqne : q ∈ pre ++ post := by
          rcases List.mem_append.1 hqW with h1 | h1
          · exact List.mem_append_left _ h1
          · rcases List.mem_cons.1 h1 with rfl | h1
            · exact absurd hqi hb
            · exact List.mem_append_right _ h1
        have jq := hR.job q hqW
        have h2 := (rank_le hA jq.t0 jq.t1).2.1
        have h3 := hm q hqne
        have hrb : r1 l b ≤ i := by unfold kLt at h3; omega
        rcases rank_facts hA jb.t0 jb.t1 with ⟨_, a, _⟩ | ⟨s0, g1, g2, g3, g4, g5, g6, g7, g8⟩
        · omega
        · have hcl : ceilF l s0.f0 ≤ i := by
            have := mn_le b.task (ceilF l s0.f0)
            omega
          have hC := hc b (by simp) (by omega) hrb s0 g2
          have hge := block_ge i0 (by omega) jb.t1 g1 hcl
          refine ⟨K + 1, .inr ⟨by omega, rfl⟩, by omega, fun p hp h1 h2 s' hs' => ?_⟩
          rcases hmem p hp with rfl | ⟨y, hy, rfl⟩
          · have hsm := List.mem_of_find?_eq_some hs'
            have hsc := List.find?_some hs'
            rw [Bool.and_eq_true] at hsc
            obtain ⟨_, _, _, _, _, _, _, v8⟩ := vldT_of (hA.task jb.t0 jb.t1)
            have he : s0 = s' := secB_one v8 s0 g1 s' hsm b.done g3 g4 (of_decide_eq_true hsc.1) (of_decide_eq_true hsc.2)
            subst he
            show K + 1 ≤ b.done + 1 - s0.f1 - 1
            omega
          · obtain ⟨e1, e2, e3, e4, e5, e6, e7, e8⟩ := r_hinder (l := l) b.task y
            rw [e3] at h1
            rw [e1] at h2
            exact absurd (hW.U i y (hin y hy) b (by simp) h1 h2 (by omega) hrb) (hkey y hy)
    have hrem : rem l i (pre.map (hinder b.task) ++ runJob t b :: post.map (hinder b.task)) = rem l i (pre ++ b :: post) - (if b.task ≤ i then 1 else 0) := by
      rw [rem_append, rem_cons, rem_hinder, rem_hinder, rem_append, rem_cons]
      unfold remP
      show rem l i pre + ((if b.task ≤ i then (rd_T49 l b.task).f0 - (b.done + 1) else 0) + rem l i post) = _
      split <;> omega
    refine ⟨K', ?_⟩
    rcases hs with ⟨hd, hs⟩ | ⟨hd, hs⟩
    · rw [hs]
      refine ⟨?_, hKb.1, fun p hp => hKb.2 p ?_⟩
      · have hrem2 : rem l i (pre.map (hinder b.task) ++ post.map (hinder b.task)) = rem l i (pre ++ b :: post) - (if b.task ≤ i then 1 else 0) := by
          rw [← hrem, rem_append, rem_append, rem_cons]
          have : remP l i (runJob t b) = 0 := by
            unfold remP
            show (if b.task ≤ i then (rd_T49 l b.task).f0 - (b.done + 1) else 0) = 0
            split <;> omega
          omega
        show n + 1 ≤ _ - rem l i (pre.map (hinder b.task) ++ post.map (hinder b.task)) + K'
        rw [hrem2]
        rcases hK' with ⟨k1, k2⟩ | ⟨k1, k2⟩
        · rw [if_pos k1]; omega
        · rw [if_neg (by omega)]; omega
      · rcases List.mem_append.1 hp with hp | hp
        · exact List.mem_append_left _ hp
        · exact List.mem_append_right _ (List.mem_cons_of_mem _ hp)
    · rw [hs]
      refine ⟨?_, hKb.1, hKb.2⟩
      show n + 1 ≤ _ - rem l i (pre.map (hinder b.task) ++ runJob t b :: post.map (hinder b.task)) + K'
      rw [hrem]
      rcases hK' with ⟨k1, k2⟩ | ⟨k1, k2⟩
      · rw [if_pos k1]; omega
      · rw [if_neg (by omega)]; omega
end Go.Proofs.Ytcmifojplgmgkaa.CEv
