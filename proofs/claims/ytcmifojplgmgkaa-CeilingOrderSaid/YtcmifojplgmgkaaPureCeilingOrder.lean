/- The law CeilingOrder, without Go. -/
import Derived.Test.YtcmifojplgmgkaaP34
import Derived.Test.YtcmifojplgmgkaaCRef
import Derived.Test.YtcmifojplgmgkaaCInv
set_option linter.unusedVariables false
namespace Go.Proofs.Ytcmifojplgmgkaa.Pure
open Go.RowKit Go.Proofs.Ytcmifojplgmgkaa.P Go.Proofs.YtcmifojplgmgkaaW.PrintWords CEv
/-- What a job is asked. -/
def OrdC (l : List S49) (rel : List (List Int)) (a : Int) (j : S34) (c : Nat) (work en : Int) : Prop :=
  0 ≤ j.f0 ∧ j.f0 < l.length ∧ c < (rd_L5 rel j.f0).length ∧ j.f1 = rd (rd_L5 rel j.f0) (c : Nat) ∧ en < j.f3 ∧ j.f3 ≤ a ∧ j.f1 ≤ j.f2 ∧ (rd_T49 l j.f0).f0 ≤ j.f3 - j.f2 ∧ (rd_T49 l j.f0).f0 + j.f4 ≤ j.f3 - j.f1 ∧
      0 ≤ j.f1 ∧ 0 ≤ j.f4 ∧ 0 ≤ (rd_T49 l j.f0).f0 ∧ 0 ≤ work ∧ work ≤ en ∧ 0 ≤ en ∧ c ≤ 1000000
def aNx (out : List S34) (nx : List Nat) : List Nat := out.foldl (fun nx j => nx.set j.f0.toNat (nx.getD j.f0.toNat 0 + 1)) nx
def costs (l : List S49) (out : List S34) : Int := (out.map fun j => (rd_T49 l j.f0).f0).sum
def endOf (out : List S34) (e : Int) : Int := out.foldl (fun _ j => j.f3) e
theorem ord_snoc {l : List S49} {rel : List (List Int)} {a : Int} {j : S34} : ∀ (out : List S34) (nx : List Nat) (work en : Int), ordGo l rel a out nx work en = true →
    OrdC l rel a j ((aNx out nx).getD j.f0.toNat 0) (work + costs l out) (endOf out en) → work + costs l out + (rd_T49 l j.f0).f0 ≤ j.f3 → ordGo l rel a (out ++ [j]) nx work en = true
  | [], nx, work, en, _, hc, hf => by
    have e0 : work + costs l [] = work := by unfold costs; simp
    rw [e0] at hc hf
    rw [List.nil_append]
    unfold ordGo
    rw [Bool.and_eq_true]
    refine ⟨?_, ?_⟩
    · refine decide_eq_true ?_
      exact hc
    · unfold ordGo
      exact decide_eq_true hf
  | x :: r, nx, work, en, h, hc, hf => by
    rw [List.cons_append]
    unfold ordGo at h ⊢
    rw [Bool.and_eq_true] at h ⊢
    have e0 : work + costs l (x :: r) = work + (rd_T49 l x.f0).f0 + costs l r := by unfold costs; rw [List.map_cons, List.sum_cons]; omega
    rw [e0] at hc hf
    exact ⟨h.1, ord_snoc r _ _ _ h.2 hc hf⟩
theorem costs_snoc (l : List S49) (out : List S34) (j : S34) : costs l (out ++ [j]) = costs l out + (rd_T49 l j.f0).f0 := by unfold costs; simp
theorem endOf_snoc (out : List S34) (j : S34) (e : Int) : endOf (out ++ [j]) e = j.f3 := by unfold endOf; rw [List.foldl_append]; rfl
theorem aNx_len : ∀ (out : List S34) (nx : List Nat), (aNx out nx).length = nx.length
  | [], _ => rfl
  | x :: r, nx => by
    have := aNx_len r (nx.set x.f0.toNat (nx.getD x.f0.toNat 0 + 1))
    rw [List.length_set] at this
    exact this
theorem aNx_at (i : Nat) : ∀ (out : List S34) (nx : List Nat), i < nx.length → (∀ j ∈ out, 0 ≤ j.f0) → (aNx out nx).getD i 0 = nx.getD i 0 + (out.filter (ok i)).length
  | [], _, _, _ => rfl
  | x :: r, nx, hi, h => by
    have h0 := h x List.mem_cons_self
    have ih := aNx_at i r (nx.set x.f0.toNat (nx.getD x.f0.toNat 0 + 1)) (by rw [List.length_set]; exact hi) (fun j hj => h j (List.mem_cons_of_mem _ hj))
    have e : aNx (x :: r) nx = aNx r (nx.set x.f0.toNat (nx.getD x.f0.toNat 0 + 1)) := rfl
    rw [e, ih]
    by_cases c : x.f0 = (i : Int)
    · rw [List.filter_cons_of_pos (by unfold ok; exact beq_iff_eq.2 c), c, Int.toNat_natCast, getD_set_self hi, List.length_cons]
      omega
    · rw [List.filter_cons_of_neg (by unfold ok; rw [beq_iff_eq]; exact c), getD_set (by omega)]
def dones (wt : List PJ) : Int := (wt.map (·.done)).sum
theorem dones_append (a b : List PJ) : dones (a ++ b) = dones a + dones b := by unfold dones; rw [List.map_append, List.sum_append]
theorem dones_hinder (t : Int) (a : List PJ) : dones (a.map (hinder t)) = dones a := by
  unfold dones
  rw [List.map_map]
  congr 1
  exact List.map_congr_left (fun x _ => (r_hinder (l := []) t x).2.2.2.2.1)
theorem dones_nonneg {a : List PJ} (h : ∀ p ∈ a, 0 ≤ p.done) : 0 ≤ dones a := by
  induction a with
  | nil => exact Int.le_refl 0
  | cons x r ih =>
    have h1 := h x List.mem_cons_self
    have h2 := ih (fun p hp => h p (List.mem_cons_of_mem _ hp))
    unfold dones at h2 ⊢
    rw [List.map_cons, List.sum_cons]
    omega
theorem dones_cons (p : PJ) (b : List PJ) : dones (p :: b) = p.done + dones b := by unfold dones; rw [List.map_cons, List.sum_cons]
theorem dones_new {now : Int} {nx : List Nat} {rel : List (List Int)} : dones (newFrom now nx 0 rel) = 0 := by
  have : ∀ (a : List PJ), (∀ p ∈ a, p.done = 0) → dones a = 0 := by
    intro a
    induction a with
    | nil => intro _; rfl
    | cons x r ih => intro h; rw [dones_cons, h x List.mem_cons_self, ih (fun p hp => h p (List.mem_cons_of_mem _ hp))]; rfl
  exact this _ (fun p hp => by obtain ⟨j, x, _, _, rfl, _⟩ := newFrom_mem hp; rfl)
structure Ord (l : List S49) (rel : List (List Int)) (a t : Int) (s : Sim) : Prop where
  go : ordGo l rel a s.out (List.replicate l.length 0) 0 0 = true
  en : endOf s.out 0 ≤ t
  en0 : 0 ≤ endOf s.out 0
  we : costs l s.out ≤ endOf s.out 0
  w0 : 0 ≤ costs l s.out
  sum : costs l s.out + dones s.wt ≤ t
  f0 : ∀ j ∈ s.out, 0 ≤ j.f0
  cnt : s.out.length ≤ t
section
variable {l : List S49} {rel : List (List Int)} {a : Int} (hA : Adm l rel) (hr : ∀ r ∈ rel, r.length ≤ 12)
include hA hr
theorem ord_step {t : Int} {s : Sim} (h : Inv l rel t s) (ho : Ord l rel a t s) (ht : 0 ≤ t) (hta : t < a) : Ord l rel a (t + 1) (stepV l rel t s) := by
  have hR := inv_rel hA h ht
  have hS := inv_step hA h ht
  obtain ⟨o1, o2, o3, o4, o5, o6, o7, o8⟩ := ho
  rcases step_cases l rel t s with ⟨hw, hs⟩ | ⟨pre, p, post, hw, hm, hs⟩
  · rw [hs]
    have hwt : dones s.wt = 0 := by
      have : s.wt = [] := (List.append_eq_nil_iff.1 hw).1
      rw [this]; rfl
    exact ⟨o1, by show endOf s.out 0 ≤ t + 1; omega, o3, o4, o5, by show costs l s.out + dones [] ≤ t + 1; rw [show dones [] = 0 from rfl]; omega, o7, by show (s.out.length : Int) ≤ t + 1; omega⟩
  · have hd : dones s.wt = dones pre + (p.done + dones post) := by
      have := congrArg dones hw
      rw [dones_append, dones_append, dones_cons, dones_new] at this
      omega
    rw [hw] at hR
    have jp := hR.job p (by simp)
    rcases hs with ⟨hd1, hs⟩ | ⟨hd1, hs⟩
    · have hpre : 0 ≤ dones pre := dones_nonneg (fun q hq => (hR.job q (List.mem_append_left _ hq)).d0)
      have hpost : 0 ≤ dones post := dones_nonneg (fun q hq => (hR.job q (List.mem_append_right _ (List.mem_cons_of_mem _ hq))).d0)
      rw [hs] at hS ⊢
      have jt0 := jp.t0
      have jt1 := jp.t1
      obtain ⟨c1, c2, _⟩ := hA.cost jt0 jt1
      obtain ⟨i, hi⟩ : ∃ i : Nat, p.task = (i : Int) := ⟨p.task.toNat, by omega⟩
      have hir : i < rel.length := by have := hA.len; omega
      have hf := hS.fifo i hir
      dsimp only at hf
      rw [List.filter_append, List.filter_cons_of_pos (show ok i (jobOf { runJob t p with fin := t + 1 }) = true by unfold ok; exact beq_iff_eq.2 hi), List.map_append, show t + 1 - 1 = t by omega] at hf
      have hcnt : (s.out.filter (ok i)).length < rel[i].length ∧ rel[i][(s.out.filter (ok i)).length]? = some p.rel := by
        have h1 : (dueL t rel[i])[(s.out.filter (ok i)).length]? = some p.rel := by
          rw [← hf, List.append_assoc, List.getElem?_append_right (by simp)]
          simp [jobOf, runJob]
        have h2 : rel[i][(s.out.filter (ok i)).length]? = some p.rel := by
          unfold dueL at h1
          obtain ⟨z, hz⟩ := List.takeWhile_prefix (p := fun x => decide (x ≤ t)) (l := rel[i])
          rw [← hz, List.getElem?_append_left (List.getElem?_eq_some_iff.1 h1).1]
          exact h1
        exact ⟨(List.getElem?_eq_some_iff.1 h2).1, h2⟩
      have h12 := hr rel[i] (List.getElem_mem _)
      have hnx : (aNx s.out (List.replicate l.length 0)).getD p.task.toNat 0 = (s.out.filter (ok i)).length := by
        rw [hi, Int.toNat_natCast, aNx_at i s.out _ (by simp; omega) o7]
        simp [List.getD_eq_getElem?_getD, List.getElem?_replicate]
        split <;> rfl
      have hst : p.rel ≤ (runJob t p).start ∧ (rd_T49 l p.task).f0 ≤ t + 1 - (runJob t p).start := by
        show p.rel ≤ (if p.began = true then p.start else t) ∧ (rd_T49 l p.task).f0 ≤ t + 1 - (if p.began = true then p.start else t)
        have := jp.sum
        have := jp.b0
        have := jp.d0
        by_cases hb : p.began = true
        · rw [if_pos hb]
          have := jp.st hb
          omega
        · rw [if_neg hb]
          have : ¬ 0 < p.done := fun c => hb (jp.beg.2 c)
          omega
      have hsum := jp.sum
      have hb0 := jp.b0
      have hr0 := jp.r0
      have hdl : rd_L5 rel p.task = rel[i] := by rw [hi]; exact rdL5_at rel i hir
      have hC : OrdC l rel a (jobOf { runJob t p with fin := t + 1 }) ((aNx s.out (List.replicate l.length 0)).getD p.task.toNat 0) (0 + costs l s.out) (endOf s.out 0) := by
        rw [hnx]
        refine ⟨jt0, jt1, ?_, ?_, ?_, ?_, hst.1, hst.2, ?_, hr0, hb0, ?_, by omega, by omega, o3, by omega⟩
        · show _ < (rd_L5 rel p.task).length
          rw [hdl]; exact hcnt.1
        · show p.rel = rd (rd_L5 rel p.task) _
          rw [hdl, rdI_at _ _ hcnt.1]
          have := (List.getElem?_eq_some_iff.1 hcnt.2).2
          exact this.symm
        · show _ < t + 1; omega
        · show t + 1 ≤ a; omega
        · show (rd_T49 l p.task).f0 + p.blk ≤ t + 1 - p.rel; omega
        · show 0 ≤ (rd_T49 l p.task).f0; omega
      refine ⟨ord_snoc s.out _ 0 0 o1 hC ?_, ?_, ?_, ?_, ?_, ?_, ?_, ?_⟩
      · show 0 + costs l s.out + (rd_T49 l p.task).f0 ≤ t + 1; omega
      · show endOf (s.out ++ [_]) 0 ≤ t + 1
        rw [endOf_snoc]; exact Int.le_refl _
      · show 0 ≤ endOf (s.out ++ [_]) 0
        rw [endOf_snoc]; show 0 ≤ t + 1; omega
      · show costs l (s.out ++ [_]) ≤ endOf (s.out ++ [_]) 0
        rw [endOf_snoc, costs_snoc]; show costs l s.out + (rd_T49 l p.task).f0 ≤ t + 1; omega
      · show 0 ≤ costs l (s.out ++ [_])
        rw [costs_snoc]; show 0 ≤ costs l s.out + (rd_T49 l p.task).f0; omega
      · show costs l (s.out ++ [_]) + dones (pre.map _ ++ post.map _) ≤ t + 1
        rw [costs_snoc, dones_append, dones_hinder, dones_hinder]
        show costs l s.out + (rd_T49 l p.task).f0 + _ ≤ _
        omega
      · intro j hj
        rcases List.mem_append.1 hj with hj | hj
        · exact o7 j hj
        · rw [List.mem_singleton.1 hj]; exact jt0
      · show ((s.out ++ [_]).length : Int) ≤ t + 1
        rw [List.length_append]; simp; omega
    · rw [hs]
      refine ⟨o1, by show endOf s.out 0 ≤ t + 1; omega, o3, o4, o5, ?_, o7, by show (s.out.length : Int) ≤ t + 1; omega⟩
      show costs l s.out + dones (pre.map _ ++ runJob t p :: post.map _) ≤ t + 1
      rw [dones_append, dones_cons, dones_hinder, dones_hinder]
      show costs l s.out + (dones pre + (p.done + 1 + dones post)) ≤ t + 1
      omega
theorem ord_at : ∀ t : Nat, (t : Int) ≤ a → Ord l rel a (t : Int) (stAt l rel t)
  | 0, _ => ⟨by unfold stAt; rfl, Int.le_refl _, Int.le_refl _, Int.le_refl _, Int.le_refl _, Int.le_refl _, fun j hj => by (cases hj), Int.le_refl _⟩
  | t + 1, h => by
    have := ord_step hA hr (inv_at hA t) (ord_at t (by omega)) (by omega) (by omega)
    rw [show ((t + 1 : Nat) : Int) = (t : Int) + 1 by omega]
    exact this
end
theorem CeilingOrder {P Q R S : Prop} (l : List S49) (rel : List (List Int)) (a : Int) (_ : P) (_ : Q) (_ : R) (_ : S) (hw : ∀ r ∈ rel, r.length ≤ maxLen ∧ ∀ x ∈ r, (Lit.int .i64 x).wf = true) {T : Prop} (_ : T) {U : Prop} (_ : U) :
    ∃ k, ontimelaw43_CeilingOrder.f k l rel a = some true := by
  refine ⟨100000, ?_⟩
  unfold ontimelaw43_CeilingOrder.f
  rw [cawake_eq (by omega)]
  simp only [Option.bind_some]
  rw [if_pos trivial, fits_eq (by omega) (w64_of hw)]
  simp only [Option.bind_some]
  by_cases hf : fitsV l rel a = true
  · obtain ⟨f1, f2, f3, f4, f5, f6, f7⟩ := fitsV_of hf
    have ha := fits_adm hf
    have hA := (Adm.of ha).1
    rw [if_pos hf, sim_eq (by omega) (fun r h => ⟨by have := f7 r h; omega, w64_of hw r h⟩), ha, if_pos rfl]
    simp only [Option.bind_some]
    have ho := ord_at hA f7 (a := a) a.toNat (by omega)
    rw [simV_st, if_pos]
    unfold ordOk
    rw [Bool.and_eq_true]
    exact ⟨decide_eq_true ⟨rfl, by omega, f5, by omega, by have := ho.cnt; show (stAt l rel a.toNat).out.length ≤ 100000; omega⟩, ho.go⟩
  · rw [if_neg hf]
end Go.Proofs.Ytcmifojplgmgkaa.Pure
