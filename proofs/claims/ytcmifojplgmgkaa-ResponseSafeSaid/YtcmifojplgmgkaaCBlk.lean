/- How waiting jobs stand to each other: a job is blocked by at most one section. -/
import Derived.Test.YtcmifojplgmgkaaP7
import Derived.Test.YtcmifojplgmgkaaCRes
set_option linter.unusedVariables false
set_option linter.unusedSectionVars false
namespace Go.Proofs.Ytcmifojplgmgkaa.CEv
open Go.RowKit Go.Proofs.Ytcmifojplgmgkaa.P Go.Proofs.YtcmifojplgmgkaaW.PrintWords Go.Proofs.YtcmifojplgmgkaaW.PrintMore
theorem mx_ge (a b : Int) : a ≤ mx a b ∧ b ≤ mx a b := by unfold mx; split <;> omega
theorem secMax_ge (l : List S49) (task : Int) : ∀ (ss : List S68) (m : Int), m ≤ secMax l task m ss ∧ ∀ s ∈ ss, ceilF l s.f0 ≤ task → s.f2 - s.f1 - 1 ≤ secMax l task m ss
  | [], m => ⟨Int.le_refl _, fun s hs => by cases hs⟩
  | a :: r, m => by
    have e : secMax l task m (a :: r) = secMax l task (if ceilF l a.f0 ≤ task then mx m (a.f2 - a.f1 - 1) else m) r := rfl
    rw [e]
    obtain ⟨h1, h2⟩ := secMax_ge l task r (if ceilF l a.f0 ≤ task then mx m (a.f2 - a.f1 - 1) else m)
    have := mx_ge m (a.f2 - a.f1 - 1)
    refine ⟨?_, fun s hs hc => ?_⟩
    · split at h1
      · rw [if_pos (by assumption)]; omega
      · rw [if_neg (by assumption)]; exact h1
    · rcases List.mem_cons.1 hs with rfl | hs
      · rw [if_pos hc] at h1 ⊢
        omega
      · exact h2 s hs hc
theorem fold_ge (l : List S49) (task : Int) : ∀ (ts : List S49) (m : Int), m ≤ ts.foldl (fun m t => secMax l task m t.f3) m ∧ ∀ t ∈ ts, ∀ s ∈ t.f3, ceilF l s.f0 ≤ task → s.f2 - s.f1 - 1 ≤ ts.foldl (fun m t => secMax l task m t.f3) m
  | [], m => ⟨Int.le_refl _, fun s hs => by cases hs⟩
  | a :: r, m => by
    obtain ⟨h1, h2⟩ := fold_ge l task r (secMax l task m a.f3)
    obtain ⟨g1, g2⟩ := secMax_ge l task a.f3 m
    rw [List.foldl_cons]
    refine ⟨Int.le_trans g1 h1, fun t ht s hs hc => ?_⟩
    rcases List.mem_cons.1 ht with rfl | ht
    · exact Int.le_trans (g2 s hs hc) h1
    · exact h2 t ht s hs hc
theorem block_ge {l : List S49} {i t : Int} (h0 : 0 ≤ i) (h1 : i < t) (h2 : t < l.length) {s : S68} (hs : s ∈ (rd_T49 l t).f3) (hc : ceilF l s.f0 ≤ i) : s.f2 - s.f1 - 1 ≤ blockV l i := by
  have ht : rd_T49 l t ∈ l.drop (i.toNat + 1) := by
    have := rd49_at l t.toNat (by omega)
    rw [Int.toNat_of_nonneg (by omega)] at this
    rw [this, List.mem_iff_getElem?]
    refine ⟨t.toNat - (i.toNat + 1), ?_⟩
    rw [List.getElem?_drop, show i.toNat + 1 + (t.toNat - (i.toNat + 1)) = t.toNat by omega]
    exact List.getElem?_eq_getElem (by omega)
  exact (fold_ge l i _ 0).2 _ ht s hs hc
theorem block_nonneg (l : List S49) (i : Int) : 0 ≤ blockV l i := (fold_ge l i _ 0).1
theorem secB_le {cost : Int} : ∀ {ss : List S68} {e : Int}, secB cost e ss = true → ∀ s ∈ ss, e ≤ s.f1 ∧ s.f1 < s.f2
  | [], e, _, s, hs => by cases hs
  | a :: r, e, h, s, hs => by
    unfold secB at h
    rw [Bool.and_eq_true] at h
    have h1 := of_decide_eq_true h.1
    rcases List.mem_cons.1 hs with rfl | hs
    · exact ⟨h1.1, h1.2.1⟩
    · have := secB_le h.2 s hs
      omega
theorem secB_one {cost : Int} : ∀ {ss : List S68} {e : Int}, secB cost e ss = true → ∀ s ∈ ss, ∀ s' ∈ ss, ∀ d : Int, s.f1 < d → d < s.f2 → s'.f1 < d + 1 → d + 1 < s'.f2 → s = s'
  | [], e, _, s, hs => by cases hs
  | a :: r, e, h, s, hs => by
    intro s' hs' d h1 h2 h3 h4
    unfold secB at h
    rw [Bool.and_eq_true] at h
    have h0 := of_decide_eq_true h.1
    rcases List.mem_cons.1 hs with e1 | hs
    · rcases List.mem_cons.1 hs' with e2 | hs'
      · rw [e1, e2]
      · have := secB_le h.2 s' hs'
        rw [← e1] at this
        omega
    · have := secB_le h.2 s hs
      rcases List.mem_cons.1 hs' with e2 | hs'
      · rw [← e2] at this
        omega
      · exact secB_one h.2 s hs s' hs' d h1 h2 h3 h4
/-- How waiting jobs stand to each other. -/
structure Blk (l : List S49) (W : List PJ) : Prop where
  M : ∀ q ∈ W, 0 < q.done → ∀ p ∈ W, q.task < p.task → q.task < r1 l p
  U : ∀ t : Int, ∀ p ∈ W, ∀ q ∈ W, t < p.task → r1 l p ≤ t → t < q.task → r1 l q ≤ t → p.task = q.task ∧ p.rel = q.rel
  B : ∀ q ∈ W, q.blk ≤ blockV l q.task
  C : ∀ q ∈ W, ∀ p ∈ W, q.task < p.task → r1 l p ≤ q.task → ∀ s, inSec (rd_T49 l p.task).f3 p.done = some s → q.blk ≤ p.done - s.f1 - 1
  S : ∀ q ∈ W, q.began = true → q.blk ≤ q.start - q.rel
def OutB (l : List S49) (out : List S34) (t : Int) : Prop := ∀ j ∈ out, 0 ≤ j.f0 ∧ j.f0 < l.length ∧ 0 ≤ j.f4 ∧ j.f4 ≤ blockV l j.f0 ∧ j.f4 ≤ j.f2 - j.f1 ∧ 0 ≤ j.f1 ∧ j.f1 ≤ t ∧ 0 ≤ j.f2 ∧ j.f2 ≤ t
section
variable {l : List S49} {rel : List (List Int)} (hA : Adm l rel)
include hA
theorem blk_rel {t : Int} {s : Sim} (h : Inv l rel t s) (hB : Blk l s.wt) (ht : 0 ≤ t) : Blk l (s.wt ++ newFrom t s.nx 0 rel) := by
  have hR := inv_rel hA h ht
  have hnew : ∀ p ∈ newFrom t s.nx 0 rel, p.done = 0 ∧ p.blk = 0 ∧ p.began = false ∧ r1 l p = p.task := fun p hp => by
    have jp := hR.job p (List.mem_append_right _ hp)
    have hd : p.done = 0 ∧ p.blk = 0 ∧ p.began = false := by obtain ⟨j, x, _, _, rfl, _⟩ := newFrom_mem hp; exact ⟨rfl, rfl, rfl⟩
    exact ⟨hd.1, hd.2.1, hd.2.2, (rank_zero hA jp.t0 jp.t1 (by omega)).1⟩
  refine ⟨fun q hq hd p hp hqp => ?_, fun u p hp q hq h1 h2 h3 h4 => ?_, fun q hq => ?_, fun q hq p hp hqp hr s hs => ?_, fun q hq hb => ?_⟩
  · rcases List.mem_append.1 hq with hq | hq
    · rcases List.mem_append.1 hp with hp | hp
      · exact hB.M q hq hd p hp hqp
      · rw [(hnew p hp).2.2.2]; exact hqp
    · have := (hnew q hq).1; omega
  · rcases List.mem_append.1 hp with hp | hp
    · rcases List.mem_append.1 hq with hq | hq
      · exact hB.U u p hp q hq h1 h2 h3 h4
      · have := (hnew q hq).2.2.2; omega
    · have := (hnew p hp).2.2.2; omega
  · rcases List.mem_append.1 hq with hq | hq
    · exact hB.B q hq
    · rw [(hnew q hq).2.1]; exact block_nonneg _ _
  · rcases List.mem_append.1 hp with hp' | hp'
    · rcases List.mem_append.1 hq with hq | hq
      · exact hB.C q hq p hp' hqp hr s hs
      · have := (hnew q hq).2.1
        have hc := List.find?_some hs
        rw [Bool.and_eq_true] at hc
        have := of_decide_eq_true hc.1
        omega
    · have := (hnew p hp').2.2.2; omega
  · rcases List.mem_append.1 hq with hq | hq
    · exact hB.S q hq hb
    · rw [(hnew q hq).2.2.1] at hb; cases hb
/-- Another job's key is another one. -/
theorem key_ne {t : Int} {nx : List Nat} {pre post : List PJ} {b : PJ} {out : List S34} (h : Rel l rel t nx (pre ++ b :: post) out) (hm : ∀ y ∈ pre ++ post, ¬ kLt l y b) : ∀ y ∈ pre ++ post, ¬ (y.task = b.task ∧ y.rel = b.rel) := by
  intro y hy ⟨he, hr⟩
  rcases List.mem_append.1 hy with hy | hy
  · exact pre_other hA h hm y hy he
  · have jp := h.job b (by simp)
    obtain ⟨i, hi⟩ : ∃ i : Nat, b.task = (i : Int) := ⟨b.task.toNat, by have := jp.t0; omega⟩
    have hir : i < rel.length := by have := jp.t1; have := hA.len; omega
    have hinc := (hA.incr i hir).sublist (due_sub t rel[i])
    rw [← h.fifo i hir, List.filter_append, List.map_append, List.pairwise_append, List.filter_cons_of_pos (tk_iff.2 hi), List.map_cons] at hinc
    have h2 := hinc.2.1
    rw [List.pairwise_append] at h2
    have h3 := List.rel_of_pairwise_cons h2.2.1 (List.mem_map_of_mem (f := (·.rel)) (List.mem_filter.2 ⟨hy, tk_iff.2 (he.trans hi)⟩))
    omega
/-- A job that starts, or goes on, has been blocked before that alone. -/
theorem run_start {t : Int} {b : PJ} {W : List PJ} (hB : Blk l W) (hb : b ∈ W) (jb : JI l t b) : b.blk ≤ (runJob t b).start - b.rel := by
  show b.blk ≤ (if b.began = true then b.start else t) - b.rel
  by_cases c : b.began = true
  · rw [if_pos c]; exact hB.S b hb c
  · rw [if_neg c]
    have := jb.sum
    have := jb.d0
    omega
theorem blk_exec {t : Int} {nx : List Nat} {pre post : List PJ} {b : PJ} {out : List S34} (h : Rel l rel t nx (pre ++ b :: post) out) (hB : Blk l (pre ++ b :: post)) (hm : ∀ y ∈ pre ++ post, ¬ kLt l y b) :
    Blk l (pre.map (hinder b.task) ++ runJob t b :: post.map (hinder b.task)) := by
  have hin : ∀ y, y ∈ pre ++ post → y ∈ pre ++ b :: post := fun y hy => by
    rcases List.mem_append.1 hy with hy | hy
    · exact List.mem_append_left _ hy
    · exact List.mem_append_right _ (List.mem_cons_of_mem _ hy)
  have hbW : b ∈ pre ++ b :: post := by simp
  have jb := h.job b hbW
  have hmem : ∀ q, q ∈ pre.map (hinder b.task) ++ runJob t b :: post.map (hinder b.task) → q = runJob t b ∨ ∃ y ∈ pre ++ post, q = hinder b.task y := fun q hq => by
    rcases List.mem_append.1 hq with hq | hq
    · obtain ⟨y, hy, rfl⟩ := List.mem_map.1 hq
      exact .inr ⟨y, List.mem_append_left _ hy, rfl⟩
    · rcases List.mem_cons.1 hq with rfl | hq
      · exact .inl rfl
      · obtain ⟨y, hy, rfl⟩ := List.mem_map.1 hq
        exact .inr ⟨y, List.mem_append_right _ hy, rfl⟩
  have hkey := key_ne hA h hm
  have hno : ∀ y ∈ pre ++ post, 0 < y.done → ¬ y.task < b.task := fun y hy hd hlt => by
    have h1 := hB.M y (hin y hy) hd b hbW hlt
    have jy := h.job y (hin y hy)
    have h2 := (rank_le hA jy.t0 jy.t1).2.1
    exact hm y hy (.inl (by omega))
  have hlow : ∀ p ∈ pre ++ post, b.task < p.task → b.task < r1 l p := fun p hp hlt => by
    by_cases hd : 0 < b.done
    · exact hB.M b hbW hd p (hin p hp) hlt
    · obtain ⟨e1, e2⟩ := rank_zero hA jb.t0 jb.t1 (by omega)
      have jp := h.job p (hin p hp)
      have := rank_le hA jp.t0 jp.t1
      have h3 := hm p hp
      unfold kLt at h3
      omega
  refine ⟨fun q hq hd p hp hqp => ?_, fun u p hp q hq h1 h2 h3 h4 => ?_, fun q hq => ?_, fun q hq p hp hqp hr s hs => ?_, fun q hq hb => ?_⟩
  · rcases hmem q hq with rfl | ⟨y, hy, rfl⟩
    · rcases hmem p hp with rfl | ⟨z, hz, rfl⟩
      · exact absurd hqp (Int.lt_irrefl _)
      · obtain ⟨f1, f2, f3, f4, f5, f6, f7, f8⟩ := r_hinder (l := l) b.task z
        rw [f3] at hqp
        rw [f1]
        exact hlow z hz hqp
    · obtain ⟨e1, e2, e3, e4, e5, e6, e7, e8⟩ := r_hinder (l := l) b.task y
      rw [e5] at hd
      rw [e3] at hqp ⊢
      rcases hmem p hp with rfl | ⟨z, hz, rfl⟩
      · exact absurd hqp (hno y hy hd)
      · obtain ⟨f1, f2, f3, f4, f5, f6, f7, f8⟩ := r_hinder (l := l) b.task z
        rw [f3] at hqp
        rw [f1]
        exact hB.M y (hin y hy) hd z (hin z hz) hqp
  · have key : ∀ z ∈ pre ++ post, u < b.task → u < z.task → r1 l z ≤ u → False := fun z hz g1 g2 g3 => by
      by_cases c : r1 l b ≤ u
      · exact hkey z hz (hB.U u z (hin z hz) b hbW g2 g3 g1 c)
      · exact hm z hz (.inl (by omega))
    rcases hmem p hp with rfl | ⟨y, hy, rfl⟩
    · rcases hmem q hq with rfl | ⟨z, hz, rfl⟩
      · exact ⟨rfl, rfl⟩
      · obtain ⟨f1, f2, f3, f4, f5, f6, f7, f8⟩ := r_hinder (l := l) b.task z
        rw [f3] at h3
        rw [f1] at h4
        exact (key z hz h1 h3 h4).elim
    · obtain ⟨e1, e2, e3, e4, e5, e6, e7, e8⟩ := r_hinder (l := l) b.task y
      rw [e3] at h1
      rw [e1] at h2
      rcases hmem q hq with rfl | ⟨z, hz, rfl⟩
      · exact (key y hy h3 h1 h2).elim
      · obtain ⟨f1, f2, f3, f4, f5, f6, f7, f8⟩ := r_hinder (l := l) b.task z
        rw [f3] at h3
        rw [f1] at h4
        rw [e3, e4, f3, f4]
        exact hB.U u y (hin y hy) z (hin z hz) h1 h2 h3 h4
  · rcases hmem q hq with rfl | ⟨y, hy, rfl⟩
    · exact hB.B b hbW
    · obtain ⟨e1, e2, e3, e4, e5, e6, e7, e8⟩ := r_hinder (l := l) b.task y
      rw [e3]
      rcases e8 with ⟨c1, c2⟩ | ⟨c1, c2⟩
      · rw [c2]
        have jy := h.job y (hin y hy)
        have h2 := (rank_le hA jy.t0 jy.t1).2.1
        have h3 := hm y hy
        rcases rank_facts hA jb.t0 jb.t1 with ⟨_, a, _⟩ | ⟨s, g1, g2, g3, g4, g5, g6, g7, g8⟩
        · exact absurd (show kLt l y b from .inl (by omega)) h3
        · have hrb : r1 l b ≤ y.task := by
            unfold kLt at h3
            omega
          have hc : ceilF l s.f0 ≤ y.task := by
            have := mn_le b.task (ceilF l s.f0)
            omega
          have := hB.C y (hin y hy) b hbW c1 hrb s g2
          have := block_ge jy.t0 c1 jb.t1 g1 hc
          omega
      · rw [c2]; exact hB.B y (hin y hy)
  · rcases hmem q hq with rfl | ⟨y, hy, rfl⟩
    · rcases hmem p hp with rfl | ⟨z, hz, rfl⟩
      · exact absurd hqp (Int.lt_irrefl _)
      · obtain ⟨f1, f2, f3, f4, f5, f6, f7, f8⟩ := r_hinder (l := l) b.task z
        rw [f3] at hqp hs
        rw [f1] at hr
        rw [f5] at hs ⊢
        exact hB.C b hbW z (hin z hz) hqp hr s hs
    · obtain ⟨e1, e2, e3, e4, e5, e6, e7, e8⟩ := r_hinder (l := l) b.task y
      rw [e3] at hqp hr
      rcases hmem p hp with rfl | ⟨z, hz, rfl⟩
      · have hqb : y.task < b.task := hqp
        rcases e8 with ⟨c1, c2⟩ | ⟨c1, c2⟩
        · rw [c2]
          have jy := h.job y (hin y hy)
          have h2 := (rank_le hA jy.t0 jy.t1).2.1
          have h3 := hm y hy
          rcases rank_facts hA jb.t0 jb.t1 with ⟨_, a, _⟩ | ⟨s0, g1, g2, g3, g4, g5, g6, g7, g8⟩
          · exact absurd (show kLt l y b from .inl (by omega)) h3
          · have hrb : r1 l b ≤ y.task := by
              unfold kLt at h3
              omega
            have hC := hB.C y (hin y hy) b hbW c1 hrb s0 g2
            have hsm := List.mem_of_find?_eq_some hs
            have hsc := List.find?_some hs
            rw [Bool.and_eq_true] at hsc
            have k1 := of_decide_eq_true hsc.1
            have k2 := of_decide_eq_true hsc.2
            obtain ⟨_, _, _, _, _, _, _, v8⟩ := vldT_of (hA.task jb.t0 jb.t1)
            have he : s0 = s := secB_one v8 s0 g1 s hsm b.done g3 g4 k1 k2
            subst he
            show y.blk + 1 ≤ b.done + 1 - s0.f1 - 1
            omega
        · omega
      · obtain ⟨f1, f2, f3, f4, f5, f6, f7, f8⟩ := r_hinder (l := l) b.task z
        rw [f3] at hqp hs
        rw [f1] at hr
        rw [f5] at hs ⊢
        rcases e8 with ⟨c1, c2⟩ | ⟨c1, c2⟩
        · have jy := h.job y (hin y hy)
          have h2 := (rank_le hA jy.t0 jy.t1).2.1
          have h3 := hm y hy
          have hrb : r1 l b ≤ y.task := by
            unfold kLt at h3
            omega
          exact absurd (hB.U y.task z (hin z hz) b hbW hqp hr c1 hrb) (hkey z hz)
        · rw [c2]
          exact hB.C y (hin y hy) z (hin z hz) hqp hr s hs
  · rcases hmem q hq with rfl | ⟨y, hy, rfl⟩
    · have := run_start hA (t := t) hB hbW jb
      exact this
    · obtain ⟨e1, e2, e3, e4, e5, e6, e7, e8⟩ := r_hinder (l := l) b.task y
      rw [e6] at hb
      rw [e7, e4]
      have jy := h.job y (hin y hy)
      rcases e8 with ⟨c1, c2⟩ | ⟨c1, c2⟩
      · exact absurd c1 (hno y hy (jy.beg.1 hb))
      · rw [c2]
        exact hB.S y (hin y hy) hb
omit hA in
theorem Blk.sub {W V : List PJ} (h : Blk l W) (hs : ∀ q, q ∈ V → q ∈ W) : Blk l V :=
  ⟨fun q hq hd p hp => h.M q (hs q hq) hd p (hs p hp), fun u p hp q hq => h.U u p (hs p hp) q (hs q hq), fun q hq => h.B q (hs q hq), fun q hq p hp => h.C q (hs q hq) p (hs p hp), fun q hq => h.S q (hs q hq)⟩
theorem blk_step {t : Int} {s : Sim} (h : Inv l rel t s) (hB : Blk l s.wt ∧ OutB l s.out t) (ht : 0 ≤ t) : Blk l (stepV l rel t s).wt ∧ OutB l (stepV l rel t s).out (t + 1) := by
  have hR := inv_rel hA h ht
  have hW := blk_rel hA h hB.1 ht
  have hout : OutB l s.out (t + 1) := fun j hj => by
    obtain ⟨a, b, c, d, e, f, g, i, k⟩ := hB.2 j hj
    exact ⟨a, b, c, d, e, f, by omega, i, by omega⟩
  rcases step_cases l rel t s with ⟨hw, hs⟩ | ⟨pre, p, post, hw, hm, hs⟩
  · rw [hs]
    exact ⟨⟨fun q hq => (by cases hq), fun u p hp => (by cases hp), fun q hq => (by cases hq), fun q hq => (by cases hq), fun q hq => (by cases hq)⟩, hout⟩
  · rw [hw] at hR hW
    have hE := blk_exec hA hR hW hm
    rcases hs with ⟨_, hs⟩ | ⟨_, hs⟩
    · rw [hs]
      refine ⟨hE.sub fun q hq => ?_, fun j hj => ?_⟩
      · rcases List.mem_append.1 hq with hq | hq
        · exact List.mem_append_left _ hq
        · exact List.mem_append_right _ (List.mem_cons_of_mem _ hq)
      · rcases List.mem_append.1 hj with hj | hj
        · exact hout j hj
        · rw [List.mem_singleton.1 hj]
          have jp := hR.job p (by simp)
          have hst : p.rel ≤ (runJob t p).start ∧ (runJob t p).start ≤ t := by
            show p.rel ≤ (if p.began = true then p.start else t) ∧ (if p.began = true then p.start else t) ≤ t
            have := jp.sum
            have := jp.d0
            have := jp.b0
            by_cases c : p.began = true
            · rw [if_pos c]
              have := jp.st c
              omega
            · rw [if_neg c]
              omega
          have h0 := jp.r0
          have hrs := run_start hA (t := t) (b := p) hW (by simp) jp
          exact ⟨jp.t0, jp.t1, jp.b0, hW.B p (by simp), hrs, h0, by show p.rel ≤ t + 1; omega, by show 0 ≤ (runJob t p).start; omega, by show (runJob t p).start ≤ t + 1; omega⟩
    · rw [hs]
      exact ⟨hE, hout⟩
theorem blk_at : ∀ t : Nat, Blk l (stAt l rel t).wt ∧ OutB l (stAt l rel t).out (t : Int)
  | 0 => ⟨⟨fun q hq => (by cases hq), fun u p hp => (by cases hp), fun q hq => (by cases hq), fun q hq => (by cases hq), fun q hq => (by cases hq)⟩, fun j hj => (by cases hj)⟩
  | t + 1 => by
    have := blk_step hA (inv_at hA t) (blk_at t) (by omega)
    rw [show ((t + 1 : Nat) : Int) = (t : Int) + 1 by omega]
    exact this
end
end Go.Proofs.Ytcmifojplgmgkaa.CEv
