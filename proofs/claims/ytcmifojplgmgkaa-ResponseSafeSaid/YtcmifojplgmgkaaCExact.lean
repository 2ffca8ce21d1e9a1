/- Without sections, and with all first jobs released together, a first job needs exactly its response time. -/
import Derived.Test.YtcmifojplgmgkaaCSafe
set_option linter.unusedVariables false
set_option linter.unusedSectionVars false
namespace Go.Proofs.Ytcmifojplgmgkaa.CEv
open Go.RowKit Go.Proofs.Ytcmifojplgmgkaa.P Go.Proofs.YtcmifojplgmgkaaW.PrintWords Go.Proofs.YtcmifojplgmgkaaW.PrintMore Evs
/-! Sums over the first tasks -/
def fsum (g : Nat → Int) : Nat → Int
  | 0 => 0
  | m + 1 => fsum g m + g m
theorem fsum_zero (g : Nat → Int) : fsum g 0 = 0 := rfl
theorem fsum_succ (g : Nat → Int) (m : Nat) : fsum g (m + 1) = fsum g m + g m := rfl
theorem fsum_congr {g h : Nat → Int} : ∀ m, (∀ j, j < m → g j = h j) → fsum g m = fsum h m
  | 0, _ => rfl
  | m + 1, e => by
    rw [fsum_succ, fsum_succ, fsum_congr m (fun j hj => e j (by omega)), e m (by omega)]
def eCosts (l : List S49) (out : List S34) : Int := (out.map fun j => (rd_T49 l j.f0).f0).sum
def eDones (wt : List PJ) : Int := (wt.map (·.done)).sum
theorem eCosts_snoc (l : List S49) (out : List S34) (j : S34) : eCosts l (out ++ [j]) = eCosts l out + (rd_T49 l j.f0).f0 := by unfold eCosts; simp
theorem eDones_append (a b : List PJ) : eDones (a ++ b) = eDones a + eDones b := by unfold eDones; rw [List.map_append, List.sum_append]
theorem eDones_cons (p : PJ) (b : List PJ) : eDones (p :: b) = p.done + eDones b := by unfold eDones; rw [List.map_cons, List.sum_cons]
theorem eDones_hinder (t : Int) (a : List PJ) : eDones (a.map (hinder t)) = eDones a := by
  unfold eDones
  rw [List.map_map]
  congr 1
  exact List.map_congr_left (fun x _ => (r_hinder (l := []) t x).2.2.2.2.1)
theorem eDones_nonneg {a : List PJ} (h : ∀ p ∈ a, 0 ≤ p.done) : 0 ≤ eDones a := by
  induction a with
  | nil => exact Int.le_refl 0
  | cons x r ih =>
    have h1 := h x List.mem_cons_self
    have h2 := ih (fun p hp => h p (List.mem_cons_of_mem _ hp))
    rw [eDones_cons]
    omega
theorem eDones_new {now : Int} {nx : List Nat} {rel : List (List Int)} : eDones (newFrom now nx 0 rel) = 0 := by
  have : ∀ (a : List PJ), (∀ p ∈ a, p.done = 0) → eDones a = 0 := by
    intro a
    induction a with
    | nil => intro _; rfl
    | cons x r ih => intro h; rw [eDones_cons, h x List.mem_cons_self, ih (fun p hp => h p (List.mem_cons_of_mem _ hp))]; rfl
  exact this _ (fun p hp => by obtain ⟨j, x, _, _, rfl, _⟩ := newFrom_mem hp; rfl)
def cntO (out : List S34) (j : Nat) : Int := ((out.filter (ok j)).length : Int)
theorem cntO_cons (x : S34) (out : List S34) (j : Nat) : cntO (x :: out) j = (if x.f0 = (j : Int) then 1 else 0) + cntO out j := by
  unfold cntO
  by_cases c : x.f0 = (j : Int)
  · rw [if_pos c, List.filter_cons_of_pos (by unfold ok; exact beq_iff_eq.2 c), List.length_cons]; omega
  · rw [if_neg c, List.filter_cons_of_neg (by unfold ok; rw [beq_iff_eq]; exact c)]; omega
theorem fsum_cons (l : List S49) (x : S34) (out : List S34) : ∀ m, fsum (fun j => (rd_T49 l (j : Int)).f0 * cntO (x :: out) j) m = fsum (fun j => (rd_T49 l (j : Int)).f0 * cntO out j) m + (if 0 ≤ x.f0 ∧ x.f0 < (m : Int) then (rd_T49 l x.f0).f0 else 0)
  | 0 => by rw [fsum_zero, fsum_zero, if_neg (by omega)]; rfl
  | m + 1 => by
    rw [fsum_succ, fsum_succ, fsum_cons l x out m, cntO_cons, Int.mul_add]
    by_cases c : x.f0 = (m : Int)
    · rw [if_pos c, if_neg (by omega), if_pos (by omega), ← c]
      omega
    · rw [if_neg c]
      by_cases d : 0 ≤ x.f0 ∧ x.f0 < (m : Int)
      · rw [if_pos d, if_pos (by omega)]; omega
      · rw [if_neg d, if_neg (by omega)]; omega
theorem fsum_costs {l : List S49} {m : Nat} : ∀ {out : List S34}, (∀ j ∈ out, 0 ≤ (rd_T49 l j.f0).f0) → fsum (fun j => (rd_T49 l (j : Int)).f0 * cntO out j) m ≤ eCosts l out
  | [], _ => by
    have : ∀ m, fsum (fun j => (rd_T49 l (j : Int)).f0 * cntO [] j) m = 0 := by
      intro m
      induction m with
      | zero => rfl
      | succ m ih =>
        rw [fsum_succ, ih]
        show (0 : Int) + (rd_T49 l (m : Int)).f0 * ((([] : List S34).length : Nat) : Int) = 0
        simp
    rw [this]
    exact Int.le_refl 0
  | x :: r, h => by
    have ih := fsum_costs (l := l) (m := m) (out := r) (fun j hj => h j (List.mem_cons_of_mem _ hj))
    have hx := h x List.mem_cons_self
    have e : eCosts l (x :: r) = (rd_T49 l x.f0).f0 + eCosts l r := by unfold eCosts; rw [List.map_cons, List.sum_cons]
    rw [fsum_cons, e]
    split <;> omega
theorem isum_fsum {l : List S49} (d : Int) : ∀ m, m ≤ l.length → isum (l.take m) d = fsum (fun j => (rd_T49 l (j : Int)).f0 * cdiv d (rd_T49 l (j : Int)).f1) m
  | 0, _ => rfl
  | m + 1, h => by
    rw [List.take_succ_eq_append_getElem (by omega), isum_append, isum_fsum d m (by omega), fsum_succ, rd49_at l m (by omega)]
    show _ + (l[m].f0 * cdiv d l[m].f1 + 0) = _
    omega
/-- All first jobs come at one time, and the further ones each period. -/
structure Sync (l : List S49) (rel : List (List Int)) (at_ L : Int) : Prop where
  adm : Adm l rel
  bare : ∀ t : Int, 0 ≤ t → t < l.length → (rd_T49 l t).f3 = []
  from_ : ∀ i (h : i < rel.length), ∀ x ∈ rel[i], at_ ≤ x
  cnt : ∀ i (h : i < rel.length) (d : Int), 1 ≤ d → d ≤ L → ((dueL (at_ + d - 1) rel[i]).length : Int) = cdiv d (rd_T49 l (i : Int)).f1
section
variable {l : List S49} {rel : List (List Int)} {at_ L : Int} (hS : Sync l rel at_ L)
include hS
structure ExI (l : List S49) (at_ t : Int) (s : Sim) : Prop where
  early : t ≤ at_ → s.wt = [] ∧ s.out = []
  sum : at_ ≤ t → eCosts l s.out + eDones s.wt ≤ t - at_
  low : ∀ j ∈ s.out, j.f1 = at_ → nextV l j.f0 (j.f3 - at_) ≤ j.f3 - at_
  ok : ∀ j ∈ s.out, 0 ≤ j.f0 ∧ j.f0 < l.length ∧ j.f3 ≤ t ∧ j.f1 ≤ j.f3
theorem bare_block (i : Int) (h0 : 0 ≤ i) : blockV l i = 0 := by
  have h1 : ∀ ts : List S49, (∀ t ∈ ts, t.f3 = []) → ts.foldl (fun m t => secMax l i m t.f3) 0 = 0 := by
    intro ts
    induction ts with
    | nil => intro _; rfl
    | cons a r ih =>
      intro h
      rw [List.foldl_cons, h a List.mem_cons_self]
      exact ih (fun t ht => h t (List.mem_cons_of_mem _ ht))
  refine h1 _ fun t ht => ?_
  obtain ⟨q, hq, he⟩ := List.mem_iff_getElem.1 (List.mem_of_mem_drop ht)
  have := hS.bare (q : Int) (by omega) (by omega)
  rw [rd49_at l q hq, he] at this
  exact this
theorem ex_step {t : Int} {s : Sim} (h : Inv l rel t s) (hE : ExI l at_ t s) (ht : 0 ≤ t) (hL : t + 1 ≤ at_ + L) : ExI l at_ (t + 1) (stepV l rel t s) := by
  have hA := hS.adm
  have hR := inv_rel hA h ht
  have hN := inv_step hA h ht
  have hok : ∀ j ∈ s.out, 0 ≤ j.f0 ∧ j.f0 < l.length ∧ j.f3 ≤ t + 1 ∧ j.f1 ≤ j.f3 := fun j hj => by
    obtain ⟨a, b, c, d⟩ := hE.ok j hj
    exact ⟨a, b, by omega, d⟩
  by_cases hat : t < at_
  · obtain ⟨e1, e2⟩ := hE.early (by omega)
    have hnew : newFrom t s.nx 0 rel = [] := by
      cases hn : newFrom t s.nx 0 rel with
      | nil => rfl
      | cons q r =>
        exfalso
        have hq : q ∈ newFrom t s.nx 0 rel := by rw [hn]; exact List.mem_cons_self
        obtain ⟨j, x, _, h2, rfl, h4, h5⟩ := newFrom_mem hq
        have hj : j < rel.length := by omega
        rw [Nat.sub_zero, List.getD_eq_getElem?_getD, List.getElem?_eq_getElem hj] at h5
        have := hS.from_ j hj x h5
        omega
    rw [step_nil l rel t s (by rw [e1, hnew]; rfl)]
    refine ⟨fun _ => ⟨rfl, e2⟩, fun _ => ?_, by rw [show (⟨nxFrom t 0 rel s.nx, [], s.out⟩ : Sim).out = s.out from rfl]; exact hE.low, hok⟩
    show eCosts l s.out + eDones [] ≤ _
    rw [e2]
    show (0 : Int) + 0 ≤ _
    omega
  · have hsum := hE.sum (by omega)
    rcases step_cases l rel t s with ⟨hw, hs⟩ | ⟨pre, b, post, hw, hm, hs⟩
    · rw [hs]
      have hwt : s.wt = [] := (List.append_eq_nil_iff.1 hw).1
      rw [hwt] at hsum
      exact ⟨fun hh => absurd hh (by omega), fun _ => by show eCosts l s.out + eDones [] ≤ _; omega, hE.low, hok⟩
    · have hd : eDones s.wt = eDones pre + (b.done + eDones post) := by
        have := congrArg eDones hw
        rw [eDones_append, eDones_append, eDones_cons, eDones_new] at this
        omega
      rw [hw] at hR
      have jb := hR.job b (by simp)
      have jt0 := jb.t0
      have jt1 := jb.t1
      rcases hs with ⟨hd1, hs⟩ | ⟨hd1, hs⟩
      · rw [hs] at hN ⊢
        have hcs : eCosts l (s.out ++ [jobOf { runJob t b with fin := t + 1 }]) = eCosts l s.out + (rd_T49 l b.task).f0 := eCosts_snoc l s.out _
        have hds : eDones (pre.map (hinder b.task) ++ post.map (hinder b.task)) = eDones pre + eDones post := by rw [eDones_append, eDones_hinder, eDones_hinder]
        have hnn : 0 ≤ eDones pre + eDones post := by
          have h1 := eDones_nonneg (a := pre) (fun q hq => (hR.job q (List.mem_append_left _ hq)).d0)
          have h2 := eDones_nonneg (a := post) (fun q hq => (hR.job q (List.mem_append_right _ (List.mem_cons_of_mem _ hq))).d0)
          omega
        have hok' : ∀ j ∈ s.out ++ [jobOf { runJob t b with fin := t + 1 }], 0 ≤ j.f0 ∧ j.f0 < l.length ∧ j.f3 ≤ t + 1 ∧ j.f1 ≤ j.f3 := fun j hj => by
          rcases List.mem_append.1 hj with hj | hj
          · exact hok j hj
          · rw [List.mem_singleton.1 hj]
            have := jb.sum
            have := jb.d0
            have := jb.b0
            exact ⟨jt0, jt1, Int.le_refl _, by show b.rel ≤ t + 1; omega⟩
        refine ⟨fun hh => absurd hh (by omega), fun _ => ?_, fun j hj hf => ?_, hok'⟩
        · show eCosts l (s.out ++ [_]) + eDones (pre.map _ ++ post.map _) ≤ _
          rw [hcs, hds]
          omega
        · rcases List.mem_append.1 hj with hj | hj
          · exact hE.low j hj hf
          · rw [List.mem_singleton.1 hj]
            obtain ⟨i, hi⟩ : ∃ i : Nat, b.task = (i : Int) := ⟨b.task.toNat, by omega⟩
            have hil : i < l.length := by omega
            have hlen := hA.len
            -- no task ahead of it waits
            have hno : ∀ y ∈ pre ++ post, ¬ y.task < b.task := fun y hy hlt => by
              have hyW : y ∈ pre ++ b :: post := by
                rcases List.mem_append.1 hy with hy | hy
                · exact List.mem_append_left _ hy
                · exact List.mem_append_right _ (List.mem_cons_of_mem _ hy)
              have jy := hR.job y hyW
              have h1 := (rank_le hA jy.t0 jy.t1).2.1
              have h2 := high_rank hA 0 (Nat.zero_le _) (fun t h0 h1 => hS.bare t h0 h1) jt0 jt1 jt0
              exact hm y hy (.inl (by omega))
            have hcnt : ∀ q, q < i → cntO (s.out ++ [jobOf { runJob t b with fin := t + 1 }]) q = cdiv (t + 1 - at_) (rd_T49 l (q : Int)).f1 := fun q hq => by
              have hqr : q < rel.length := by omega
              have hf := hN.fifo q hqr
              dsimp only at hf
              have hemp : (pre.map (hinder b.task) ++ post.map (hinder b.task)).filter (tk q) = [] := by
                refine List.filter_eq_nil_iff.2 fun y hy => ?_
                rw [← List.map_append] at hy
                obtain ⟨z, hz, rfl⟩ := List.mem_map.1 hy
                rw [tk_iff, (r_hinder (l := l) b.task z).2.2.1]
                have := hno z hz
                omega
              rw [hemp, List.map_nil, List.append_nil, show t + 1 - 1 = at_ + (t + 1 - at_) - 1 by omega] at hf
              have h3 := hS.cnt q hqr (t + 1 - at_) (by omega) (by omega)
              rw [← h3, ← hf, List.length_map]
              rfl
            have hfc := fsum_costs (l := l) (m := i + 1) (out := s.out ++ [jobOf { runJob t b with fin := t + 1 }]) (fun j hj => by
              obtain ⟨a, c, _⟩ := hok' j hj
              have := (hA.cost a c).1
              omega)
            have hci : 1 ≤ cntO (s.out ++ [jobOf { runJob t b with fin := t + 1 }]) i := by
              unfold cntO
              rw [List.filter_append, List.filter_cons_of_pos (show ok i (jobOf { runJob t b with fin := t + 1 }) = true by unfold ok; exact beq_iff_eq.2 hi), List.length_append]
              simp
              omega
            have hC := (hA.cost (i := (i : Int)) (by omega) (by omega)).1
            have hmul : (rd_T49 l (i : Int)).f0 * 1 ≤ (rd_T49 l (i : Int)).f0 * cntO (s.out ++ [jobOf { runJob t b with fin := t + 1 }]) i := Int.mul_le_mul_of_nonneg_left hci (by omega)
            rw [fsum_succ, fsum_congr i (fun q hq => by rw [hcnt q hq]), ← isum_fsum (t + 1 - at_) i (by omega), hcs] at hfc
            show nextV l b.task (t + 1 - at_) ≤ t + 1 - at_
            unfold nextV ownV interf
            rw [bare_block hS b.task jt0, hi, Int.toNat_natCast]
            rw [hi] at hfc
            rw [hi] at hd1
            omega
      · rw [hs]
        refine ⟨fun hh => absurd hh (by omega), fun _ => ?_, hE.low, hok⟩
        show eCosts l s.out + eDones (pre.map _ ++ runJob t b :: post.map _) ≤ _
        rw [eDones_append, eDones_cons, eDones_hinder, eDones_hinder]
        show eCosts l s.out + (eDones pre + (b.done + 1 + eDones post)) ≤ _
        omega
theorem ex_at : ∀ t : Nat, (t : Int) ≤ at_ + L → 0 ≤ at_ → ExI l at_ (t : Int) (stAt l rel t)
  | 0, _, h0 => ⟨fun _ => ⟨rfl, rfl⟩, fun h => by show (0 : Int) + 0 ≤ 0 - at_; omega, fun j hj => (by cases hj), fun j hj => (by cases hj)⟩
  | t + 1, h, h0 => by
    have := ex_step hS (inv_at hS.adm t) (ex_at t (by omega) h0) (by omega) (by omega)
    rw [show ((t + 1 : Nat) : Int) = (t : Int) + 1 by omega]
    exact this
end
/-! The ended jobs stay -/
theorem out_pre (l : List S49) (rel : List (List Int)) (t : Nat) : ∀ n : Nat, ∃ more, (stAt l rel (t + n)).out = (stAt l rel t).out ++ more
  | 0 => ⟨[], by rw [List.append_nil]; rfl⟩
  | n + 1 => by
    obtain ⟨more, hm⟩ := out_pre l rel t n
    have e : stAt l rel (t + (n + 1)) = stepV l rel ((t + n : Nat) : Int) (stAt l rel (t + n)) := rfl
    rw [e]
    rcases step_cases l rel ((t + n : Nat) : Int) (stAt l rel (t + n)) with ⟨_, hs⟩ | ⟨pre, p, post, _, _, ⟨_, hs⟩ | ⟨_, hs⟩⟩
    · exact ⟨more, by rw [hs]; exact hm⟩
    · exact ⟨more ++ [jobOf { runJob ((t + n : Nat) : Int) p with fin := ((t + n : Nat) : Int) + 1 }], by rw [hs, ← List.append_assoc, ← hm]⟩
    · exact ⟨more, by rw [hs]; exact hm⟩
theorem mem_due_of {now x : Int} : ∀ {ts : List Int}, ts.Pairwise (fun a b => a < b) → x ∈ ts → x ≤ now → x ∈ dueL now ts
  | a :: r, hp, hx, hle => by
    unfold dueL
    obtain ⟨h1, h2⟩ := List.pairwise_cons.1 hp
    rcases List.mem_cons.1 hx with rfl | hx
    · rw [List.takeWhile_cons_of_pos (by simpa using hle)]
      exact List.mem_cons_self
    · have := h1 x hx
      rw [List.takeWhile_cons_of_pos (by simp; omega)]
      exact List.mem_cons_of_mem _ (mem_due_of h2 hx hle)
/-- A job that was released and does not wait has ended. -/
theorem ended {l : List S49} {rel : List (List Int)} (hA : Adm l rel) {i : Nat} (hi : i < rel.length) {x : Int} (hx : x ∈ rel[i]) {t : Nat} (ht : x < t) (hw : ¬ waits l rel t (i : Int) x) : ∃ j ∈ (stAt l rel t).out, j.f0 = (i : Int) ∧ j.f1 = x := by
  have hI := inv_at hA t
  have hd := mem_due_of (now := (t : Int) - 1) (hA.incr i hi) hx (by omega)
  rw [← hI.fifo i hi] at hd
  rcases List.mem_append.1 hd with h | h
  · obtain ⟨j, hj, e⟩ := List.mem_map.1 h
    obtain ⟨h1, h2⟩ := List.mem_filter.1 hj
    exact ⟨j, h1, by unfold ok at h2; exact beq_iff_eq.1 h2, e⟩
  · obtain ⟨p, hp, e⟩ := List.mem_map.1 h
    obtain ⟨h1, h2⟩ := List.mem_filter.1 hp
    exact absurd ⟨p, h1, tk_iff.1 h2, e⟩ hw
/-- A key stands once among the ended jobs. -/
theorem one_job {l : List S49} {rel : List (List Int)} (hA : Adm l rel) {i : Nat} (hi : i < rel.length) {t : Nat} {a b : List S34} (he : (stAt l rel t).out = a ++ b) {j : S34} (hj : j ∈ a) {j' : S34} (hj' : j' ∈ b) (h1 : j.f0 = (i : Int)) (h2 : j'.f0 = (i : Int)) : j.f1 < j'.f1 := by
  have hI := inv_at hA t
  have hinc := (hA.incr i hi).sublist (due_sub ((t : Int) - 1) rel[i])
  rw [← hI.fifo i hi, he, List.filter_append, List.map_append, List.append_assoc, List.pairwise_append] at hinc
  exact hinc.2.2 j.f1 (List.mem_map_of_mem (f := fun j : S34 => j.f1) (List.mem_filter.2 ⟨hj, by unfold ok; exact beq_iff_eq.2 h1⟩)) j'.f1 (List.mem_append_left _ (List.mem_map_of_mem (f := fun j : S34 => j.f1) (List.mem_filter.2 ⟨hj', by unfold ok; exact beq_iff_eq.2 h2⟩)))
end Go.Proofs.Ytcmifojplgmgkaa.CEv
