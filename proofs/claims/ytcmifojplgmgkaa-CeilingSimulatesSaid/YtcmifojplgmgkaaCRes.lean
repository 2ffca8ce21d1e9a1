/- A simulation of the first tasks alone. -/
import Derived.Test.YtcmifojplgmgkaaCInv
set_option linter.unusedVariables false
set_option linter.unusedSectionVars false
namespace Go.Proofs.Ytcmifojplgmgkaa.CEv
open Go.RowKit Go.Proofs.Ytcmifojplgmgkaa.P Go.Proofs.YtcmifojplgmgkaaW.PrintWords Go.Proofs.YtcmifojplgmgkaaW.PrintMore
theorem kLt_neg {l : List S49} {z m y : PJ} (h : ¬ kLt l z m) (k : kLt l y m) : kLt l y z := by unfold kLt at *; omega
theorem kLt_asymm {l : List S49} {p q : PJ} (h : kLt l p q) : ¬ kLt l q p := by unfold kLt at *; omega
/-- The first of the least. -/
def First (l : List S49) (pre : List PJ) (p : PJ) (post : List PJ) : Prop := (∀ y ∈ pre, kLt l p y) ∧ ∀ y ∈ post, ¬ kLt l y p
theorem bsp_first (l : List S49) : ∀ (r pre : List PJ) (m : PJ) (mid : List PJ), First l pre m mid → First l (bsp (ltV l) pre m mid r).1 (bsp (ltV l) pre m mid r).2.1 (bsp (ltV l) pre m mid r).2.2
  | [], _, _, _, h => h
  | y :: r, pre, m, mid, h => by
    unfold bsp
    by_cases c : ltV l y m = true
    · rw [if_pos c]
      have c' := (ltV_iff l y m).1 c
      refine bsp_first l r _ _ _ ⟨fun z hz => ?_, fun z hz => by cases hz⟩
      rcases List.mem_append.1 hz with hz | hz
      · exact kLt_trans c' (h.1 z hz)
      · rcases List.mem_cons.1 hz with rfl | hz
        · exact c'
        · exact kLt_neg (h.2 z hz) c'
    · rw [if_neg c]
      refine bsp_first l r _ _ _ ⟨h.1, fun z hz => ?_⟩
      rcases List.mem_append.1 hz with hz | hz
      · exact h.2 z hz
      · rw [List.mem_singleton.1 hz]
        exact fun k => c ((ltV_iff l y m).2 k)
theorem First.uniq {l : List S49} : ∀ {pre pre' : List PJ} {p p' : PJ} {post post' : List PJ}, pre ++ p :: post = pre' ++ p' :: post' → First l pre p post → First l pre' p' post' → pre = pre' ∧ p = p' ∧ post = post'
  | [], [], p, p', post, post', h, _, _ => by injection h with h1 h2; exact ⟨rfl, h1, h2⟩
  | [], y :: r, p, p', post, post', h, h1, h2 => by
    injection h with e1 e2
    subst e1
    exact absurd (h2.1 p List.mem_cons_self) (h1.2 p' (by rw [e2]; simp))
  | y :: r, [], p, p', post, post', h, h1, h2 => by
    injection h with e1 e2
    subst e1
    exact absurd (h1.1 y List.mem_cons_self) (h2.2 p (by rw [← e2]; simp))
  | y :: r, z :: s, p, p', post, post', h, h1, h2 => by
    injection h with e1 e2
    obtain ⟨a, b, c⟩ := First.uniq e2 ⟨fun x hx => h1.1 x (List.mem_cons_of_mem _ hx), h1.2⟩ ⟨fun x hx => h2.1 x (List.mem_cons_of_mem _ hx), h2.2⟩
    exact ⟨by rw [e1, a], b, c⟩
/-- A unit, told of a row and its first least element. -/
theorem step_of (l : List S49) (rel : List (List Int)) (now : Int) (s : Sim) {pre post : List PJ} {p : PJ} (hw : s.wt ++ newFrom now s.nx 0 rel = pre ++ p :: post) (hf : First l pre p post) :
    stepV l rel now s = execV l now s.out (nxFrom now 0 rel s.nx) (pre, p, post) := by
  unfold stepV workV
  rw [relAll_eq]
  cases h : s.wt ++ newFrom now s.nx 0 rel with
  | nil => rw [h] at hw; exact absurd hw (by simp)
  | cons x r =>
    show execV l now s.out (nxFrom now 0 rel s.nx) (bsp (ltV l) [] x [] r) = _
    have h1 := bsp_first l r [] x [] ⟨fun y hy => by (cases hy), fun y hy => by (cases hy)⟩
    have h2 := bsp_split (ltV l) r [] x []
    obtain ⟨a, b, c⟩ := First.uniq (l := l) (h2.trans (show [] ++ x :: ([] ++ r) = pre ++ p :: post from h.symm.trans hw)) h1 hf
    rw [← a, ← b, ← c]
theorem step_nil (l : List S49) (rel : List (List Int)) (now : Int) (s : Sim) (hw : s.wt ++ newFrom now s.nx 0 rel = []) : stepV l rel now s = ⟨nxFrom now 0 rel s.nx, [], s.out⟩ := by
  unfold stepV workV
  rw [relAll_eq, hw]
theorem row_first (l : List S49) (x : PJ) (r : List PJ) : ∃ pre p post, x :: r = pre ++ p :: post ∧ First l pre p post :=
  ⟨_, _, _, (bsp_split (ltV l) r [] x []).symm, bsp_first l r [] x [] ⟨fun y hy => by (cases hy), fun y hy => by (cases hy)⟩⟩
theorem First.min {l : List S49} {pre post : List PJ} {p : PJ} (h : First l pre p post) : ∀ y ∈ pre ++ post, ¬ kLt l y p := fun y hy => by
  rcases List.mem_append.1 hy with hy | hy
  · exact kLt_asymm (h.1 y hy)
  · exact h.2 y hy
def lo (k : Nat) (p : PJ) : Bool := decide (p.task < (k : Int))
def loS (k : Nat) (j : S34) : Bool := decide (j.f0 < (k : Int))
theorem newFrom_lo {now : Int} {nx nx' : List Nat} {k : Nat} (hn : ∀ i, i < k → nx'.getD i 0 = nx.getD i 0) : ∀ (i : Nat) (r : List (List Int)), (newFrom now nx i r).filter (lo k) = newFrom now nx' i (r.take (k - i))
  | i, [] => by rw [List.take_nil]; rfl
  | i, t :: r => by
    by_cases hik : i < k
    · rw [show k - i = (k - (i + 1)) + 1 by omega, List.take_succ_cons]
      unfold newFrom
      rw [List.filter_append, newFrom_lo hn (i + 1) r, hn i hik, List.filter_eq_self.2 (fun x hx => by
        obtain ⟨y, _, rfl⟩ := List.mem_map.1 hx
        exact decide_eq_true (show (i : Int) < k by omega))]
    · rw [show k - i = 0 by omega, List.take_zero, List.filter_eq_nil_iff.2 (fun x hx => by
        obtain ⟨j, y, h1, _, rfl, _⟩ := newFrom_mem hx
        rw [show lo k (fresh (j : Int) y) = false from decide_eq_false (by show ¬ (j : Int) < k; omega)]
        simp)]
      rfl
theorem filter_lo_hinder (k : Nat) (t : Int) : ∀ (W : List PJ), (W.map (hinder t)).filter (lo k) = (W.filter (lo k)).map (hinder t)
  | [] => rfl
  | a :: r => by
    have e : lo k (hinder t a) = lo k a := by unfold lo; rw [(r_hinder (l := []) t a).2.2.1]
    rw [List.map_cons]
    by_cases c : lo k a = true
    · rw [List.filter_cons_of_pos (by rw [e]; exact c), List.filter_cons_of_pos c, List.map_cons, filter_lo_hinder k t r]
    · rw [List.filter_cons_of_neg (by rw [e]; exact c), List.filter_cons_of_neg c, filter_lo_hinder k t r]
section
variable {l : List S49} {rel : List (List Int)} (hA : Adm l rel) (k : Nat) (hk : k ≤ l.length)
include hA hk
theorem rd_low {t : Int} (h0 : 0 ≤ t) (h1 : t < k) : rd_T49 (l.take k) t = rd_T49 l t := by
  have a := rd49_at (l.take k) t.toNat (by rw [List.length_take]; omega)
  have b := rd49_at l t.toNat (by omega)
  rw [Int.toNat_of_nonneg h0] at a b
  rw [a, b, List.getElem_take]
theorem ceil_low {t : Int} (h0 : 0 ≤ t) (h1 : t < k) {s : S68} (hs : s ∈ (rd_T49 l t).f3) : ceilF (l.take k) s.f0 = ceilF l s.f0 := by
  unfold ceilF
  have hm : rd_T49 l t ∈ l.take k := by rw [← rd_low hA k hk h0 h1]; exact rd49_mem h0 (by rw [List.length_take]; omega)
  have hu : usesO (rd_T49 l t) s.f0 = true := List.any_eq_true.2 ⟨s, hs, by simp⟩
  cases h : (l.take k).findIdx? (fun t => usesO t s.f0) with
  | none => rw [List.findIdx?_eq_none_iff.1 h _ hm] at hu; cases hu
  | some j =>
    have e : l.findIdx? (fun t => usesO t s.f0) = some j := by
      conv => lhs; rw [← List.take_append_drop k l]
      rw [List.findIdx?_append, h]
      rfl
    rw [e]
theorem rank_low {p : PJ} (h0 : 0 ≤ p.task) (h1 : p.task < k) : r1 (l.take k) p = r1 l p ∧ r2 (l.take k) p = r2 l p := by
  unfold r1 r2 rankV
  rw [rd_low hA k hk h0 h1]
  cases hs : inSec (rd_T49 l p.task).f3 p.done with
  | none => exact ⟨rfl, rfl⟩
  | some s =>
    dsimp only
    rw [ceil_low hA k hk h0 h1 (List.mem_of_find?_eq_some hs)]
    exact ⟨rfl, rfl⟩
theorem kLt_low {p q : PJ} (h0 : 0 ≤ p.task) (h1 : p.task < k) (g0 : 0 ≤ q.task) (g1 : q.task < k) : kLt (l.take k) p q ↔ kLt l p q := by
  unfold kLt
  rw [(rank_low hA k hk h0 h1).1, (rank_low hA k hk h0 h1).2, (rank_low hA k hk g0 g1).1, (rank_low hA k hk g0 g1).2]
structure Lo (k : Nat) (s s' : Sim) : Prop where
  nl : s'.nx.length = k
  nx : ∀ i, i < k → s'.nx.getD i 0 = s.nx.getD i 0
  wt : s'.wt = s.wt.filter (lo k)
  out : s'.out = s.out.filter (loS k)
variable (hb : ∀ t : Int, (k : Int) ≤ t → t < l.length → (rd_T49 l t).f3 = [])
include hb
theorem high_rank {p : PJ} (h0 : 0 ≤ p.task) (h1 : p.task < l.length) (hp : (k : Int) ≤ p.task) : r1 l p = p.task := by
  rcases rank_facts hA h0 h1 with ⟨_, a, _⟩ | ⟨s, hs, _⟩
  · exact a
  · rw [hb p.task hp h1] at hs; cases hs
theorem lo_step {t : Int} {s s' : Sim} (h : Inv l rel t s) (hl : Lo k s s') (ht : 0 ≤ t) : Lo k (stepV l rel t s) (stepV (l.take k) (rel.take k) t s') := by
  have hR := inv_rel hA h ht
  have hlen := hA.len
  have hW : s'.wt ++ newFrom t s'.nx 0 (rel.take k) = (s.wt ++ newFrom t s.nx 0 rel).filter (lo k) := by
    rw [List.filter_append, hl.wt, newFrom_lo hl.nx 0 rel, Nat.sub_zero]
  have hnl : (nxFrom t 0 (rel.take k) s'.nx).length = k := by rw [nxFrom_len]; exact hl.nl
  have hnx : ∀ i, i < k → (nxFrom t 0 (rel.take k) s'.nx).getD i 0 = (nxFrom t 0 rel s.nx).getD i 0 := fun i hi => by
    have a := nxFrom_at t 0 (rel.take k) s'.nx i (by rw [List.length_take]; omega) (by rw [hl.nl]; omega)
    have b := nxFrom_at t 0 rel s.nx i (by omega) (by rw [h.nxl]; omega)
    rw [Nat.zero_add] at a b
    rw [a, b, hl.nx i hi, List.getElem_take]
  cases hc : s.wt ++ newFrom t s.nx 0 rel with
  | nil =>
    rw [hc] at hW
    rw [step_nil l rel t s hc, step_nil _ _ t s' hW]
    exact ⟨hnl, hnx, rfl, hl.out⟩
  | cons x r =>
    obtain ⟨pre, p, post, hs, hf⟩ := row_first l x r
    rw [hs] at hc
    rw [hc] at hR hW
    rw [step_of l rel t s hc hf]
    have jp := hR.job p (by simp)
    have jt0 := jp.t0
    have jt1 := jp.t1
    by_cases hp : p.task < k
    · have hlop : lo k p = true := decide_eq_true hp
      rw [List.filter_append, List.filter_cons_of_pos hlop] at hW
      have hf' : First (l.take k) (pre.filter (lo k)) p (post.filter (lo k)) := by
        refine ⟨fun y hy => ?_, fun y hy => ?_⟩
        · obtain ⟨h1, h2⟩ := List.mem_filter.1 hy
          exact (kLt_low hA k hk jt0 hp (hR.job y (List.mem_append_left _ h1)).t0 (of_decide_eq_true h2)).2 (hf.1 y h1)
        · obtain ⟨h1, h2⟩ := List.mem_filter.1 hy
          exact fun c => hf.2 y h1 ((kLt_low hA k hk (hR.job y (List.mem_append_right _ (List.mem_cons_of_mem _ h1))).t0 (of_decide_eq_true h2) jt0 hp).1 c)
      rw [step_of (l.take k) (rel.take k) t s' hW hf']
      unfold execV
      dsimp only
      rw [rd_low hA k hk jt0 hp]
      by_cases hd : (runJob t p).done = (rd_T49 l p.task).f0
      · rw [if_pos hd, if_pos hd]
        refine ⟨hnl, hnx, ?_, ?_⟩
        · dsimp only
          rw [List.filter_append, filter_lo_hinder, filter_lo_hinder]
        · dsimp only
          rw [List.filter_append, hl.out]
          congr 1
          have e : [jobOf { runJob t p with fin := t + 1 }].filter (loS k) = [jobOf { runJob t p with fin := t + 1 }] := List.filter_cons_of_pos (decide_eq_true hp)
          exact e.symm
      · rw [if_neg hd, if_neg hd]
        refine ⟨hnl, hnx, ?_, hl.out⟩
        dsimp only
        rw [List.filter_append, filter_lo_hinder, List.filter_cons_of_pos (show lo k (runJob t p) = true from decide_eq_true hp), filter_lo_hinder]
    · have hrp := high_rank hA k hk hb jt0 jt1 (by omega)
      have hno : ∀ y ∈ pre ++ post, lo k y = false := fun y hy => by
        cases c : lo k y with
        | false => rfl
        | true =>
          have hy2 : y ∈ pre ++ p :: post := by
            rcases List.mem_append.1 hy with hy | hy
            · exact List.mem_append_left _ hy
            · exact List.mem_append_right _ (List.mem_cons_of_mem _ hy)
          have jy := hR.job y hy2
          have := (rank_le hA jy.t0 jy.t1).2.1
          have c' : y.task < k := of_decide_eq_true c
          exact absurd (show kLt l y p from .inl (by omega)) (hf.min y hy)
      have e1 : pre.filter (lo k) = [] := List.filter_eq_nil_iff.2 (fun y hy => by rw [hno y (List.mem_append_left _ hy)]; simp)
      have e2 : post.filter (lo k) = [] := List.filter_eq_nil_iff.2 (fun y hy => by rw [hno y (List.mem_append_right _ hy)]; simp)
      have hlp : ¬ lo k p = true := fun c => hp (of_decide_eq_true c)
      rw [List.filter_append, List.filter_cons_of_neg hlp, e1, e2] at hW
      rw [step_nil _ _ t s' hW]
      unfold execV
      dsimp only
      by_cases hd : (runJob t p).done = (rd_T49 l p.task).f0
      · rw [if_pos hd]
        refine ⟨hnl, hnx, ?_, ?_⟩
        · dsimp only
          rw [List.filter_append, filter_lo_hinder, filter_lo_hinder, e1, e2]
          rfl
        · dsimp only
          rw [List.filter_append, hl.out, List.filter_cons_of_neg (show ¬ loS k (jobOf { runJob t p with fin := t + 1 }) = true from fun c => hp (of_decide_eq_true c))]
          simp
      · rw [if_neg hd]
        refine ⟨hnl, hnx, ?_, hl.out⟩
        dsimp only
        rw [List.filter_append, filter_lo_hinder, List.filter_cons_of_neg (show ¬ lo k (runJob t p) = true from fun c => hp (of_decide_eq_true c)), filter_lo_hinder, e1, e2]
        rfl
theorem lo_at : ∀ t : Nat, Lo k (stAt l rel t) (stAt (l.take k) (rel.take k) t)
  | 0 => by
    refine ⟨by unfold stAt; simp; omega, fun i hi => ?_, rfl, rfl⟩
    unfold stAt
    simp [List.getD_eq_getElem?_getD, List.getElem?_replicate]
    split <;> split <;> rfl
  | t + 1 => lo_step hA k hk hb (inv_at hA t) (lo_at t) (by omega)
/-- The first tasks' jobs do not hang on the others, if these have no sections. -/
theorem sim_low (a : Int) : simV (l.take k) (rel.take k) a = (simV l rel a).filter (loS k) := by
  rw [simV_st, simV_st]
  exact (lo_at hA k hk hb a.toNat).out
end
end Go.Proofs.Ytcmifojplgmgkaa.CEv
