/- The law CeilingPlain, without Go. -/
import Derived.Test.YtcmifojplgmgkaaP36
import Derived.Test.YtcmifojplgmgkaaCEq
set_option linter.unusedVariables false
namespace Go.Proofs.Ytcmifojplgmgkaa.Pure
open Go.RowKit Go.Proofs.Ytcmifojplgmgkaa.P Go.Proofs.YtcmifojplgmgkaaW.PrintWords CEv
/-- A task without its sections. -/
def bareT (t : S49) : S49 := ⟨t.f0, t.f1, t.f2, []⟩
def plainTail (k : Nat) (rel : List (List Int)) (a n : Int) (m : List S49) : Option Bool :=
  (ontimelaw43_awake.f k).bind fun t486 => (if t486 = true then ((ontimelaw43_fits.f k m rel a).bind fun t487 => (ontimelaw43_CeilingPlain.j1 k rel a n m (!t487))) else (ontimelaw43_CeilingPlain.j1 k rel a n m true))
theorem plain_l0 (rel : List (List Int)) (a n8 : Int) (l : List S49) (hl : l.length * 48 ≤ 140737488351232) : ∀ (n i k : Nat) (acc : List S49), i + n = l.length → acc.length = i →
    ontimelaw43_CeilingPlain.l0 (k + (n + 1)) rel a n8 acc l (l.length : Int) (i : Int) = plainTail k rel a n8 (acc ++ (l.drop i).map bareT) := by
  intro n
  induction n with
  | zero =>
    intro i k acc hi ha
    simp only [ontimelaw43_CeilingPlain.l0]
    rw [if_neg (by omega), List.drop_of_length_le (by omega)]
    simp only [List.map_nil, List.append_nil]
    rfl
  | succ n ih =>
    intro i k acc hi ha
    have hil : i < l.length := by omega
    have := ih (i + 1) k (acc ++ [bareT l[i]]) (by omega) (by simp [ha])
    rw [show ((i + 1 : Nat) : Int) = (i : Int) + 1 by omega] at this
    rw [show k + (n + 1 + 1) = (k + (n + 1)) + 1 by omega]
    generalize k + (n + 1) = q at this ⊢
    simp only [ontimelaw43_CeilingPlain.l0]
    rw [if_pos (by omega), if_pos (by omega), if_pos (by omega), if_pos (by omega), rd49_at l i hil, wrap64_of (x := (i : Int) + 1) (by omega) (by omega), List.drop_eq_getElem_cons hil]
    rw [show (⟨l[i].f0, l[i].f1, l[i].f2, []⟩ : S49) = bareT l[i] from rfl, this, List.append_assoc]
    rfl
theorem plain_l1 (kk : Nat) (some_ : List S34) (jobs : List S34) (hl : jobs.length ≤ 1000) (hb : ∀ j ∈ jobs, j.f4 = 0) : ∀ (n i k : Nat) (acc : List S34), i + n = jobs.length → acc.length ≤ i → acc ++ (jobs.drop i).filter (loS kk) = some_ → n + 2000 ≤ k →
    ontimelaw43_CeilingPlain.l1 k 0 (kk : Int) some_ 0 acc jobs (jobs.length : Int) (i : Int) = some true := by
  intro n
  induction n with
  | zero =>
    intro i k acc hi ha he hk
    obtain ⟨k, rfl⟩ : ∃ m, k = m + 1 := ⟨k - 1, by omega⟩
    rw [List.drop_of_length_le (by omega), List.filter_nil, List.append_nil] at he
    simp only [ontimelaw43_CeilingPlain.l1]
    rw [if_neg (by omega), if_pos trivial, if_pos trivial, he, job_eq (by rw [← he]; omega) (by rw [← he]; omega)]
    rfl
  | succ n ih =>
    intro i k acc hi ha he hk
    obtain ⟨k, rfl⟩ : ∃ m, k = m + 1 := ⟨k - 1, by omega⟩
    have hil : i < jobs.length := by omega
    rw [List.drop_eq_getElem_cons hil] at he
    simp only [ontimelaw43_CeilingPlain.l1]
    rw [if_pos (by omega), if_pos (by omega), if_pos (by omega), rd34_at jobs i hil, if_pos (hb _ (List.getElem_mem _)), wrap64_of (x := (i : Int) + 1) (by omega) (by omega)]
    by_cases c : jobs[i].f0 < (kk : Int)
    · rw [if_pos c, if_pos (by omega)]
      rw [List.filter_cons_of_pos (show loS kk jobs[i] = true from decide_eq_true c)] at he
      exact ih (i + 1) k _ (by omega) (by simp; omega) (by rw [List.append_assoc]; exact he) (by omega)
    · rw [if_neg c]
      rw [List.filter_cons_of_neg (show ¬ loS kk jobs[i] = true from fun h => c (of_decide_eq_true h))] at he
      exact ih (i + 1) k acc (by omega) (by omega) he (by omega)
section
variable {l : List S49} {rel : List (List Int)} (hA : Adm l rel) (hb : ∀ t : Int, 0 ≤ t → t < l.length → (rd_T49 l t).f3 = [])
include hA hb
theorem free_step {t : Int} {s : Sim} (h : Inv l rel t s) (h0 : (∀ p ∈ s.wt, p.blk = 0) ∧ ∀ j ∈ s.out, j.f4 = 0) (ht : 0 ≤ t) : (∀ p ∈ (stepV l rel t s).wt, p.blk = 0) ∧ ∀ j ∈ (stepV l rel t s).out, j.f4 = 0 := by
  have hR := inv_rel hA h ht
  have hW0 : ∀ p ∈ s.wt ++ newFrom t s.nx 0 rel, p.blk = 0 := fun p hp => by
    rcases List.mem_append.1 hp with hp | hp
    · exact h0.1 p hp
    · obtain ⟨j, x, _, _, rfl, _⟩ := newFrom_mem hp; rfl
  rcases step_cases l rel t s with ⟨hw, hs⟩ | ⟨pre, p, post, hw, hm, hs⟩
  · rw [hs]
    exact ⟨fun p hp => (by cases hp), h0.2⟩
  · rw [hw] at hR hW0
    have jp := hR.job p (by simp)
    have jt0 := jp.t0
    have jt1 := jp.t1
    have hrp := high_rank hA 0 (Nat.zero_le _) (fun t h0 h1 => hb t h0 h1) jt0 jt1 jt0
    have hh : ∀ y ∈ pre ++ post, (hinder p.task y).blk = 0 := fun y hy => by
      have hy2 : y ∈ pre ++ p :: post := by
        rcases List.mem_append.1 hy with hy | hy
        · exact List.mem_append_left _ hy
        · exact List.mem_append_right _ (List.mem_cons_of_mem _ hy)
      have jy := hR.job y hy2
      have hy0 := hW0 y hy2
      have := (rank_le hA jy.t0 jy.t1).2.1
      obtain ⟨_, _, _, _, _, _, _, e⟩ := r_hinder (l := l) p.task y
      rcases e with ⟨e1, e2⟩ | ⟨e1, e2⟩
      · exact absurd (show kLt l y p from .inl (by omega)) (hm y hy)
      · rw [e2, hy0]
    have hp0 := hW0 p (by simp)
    rcases hs with ⟨_, hs⟩ | ⟨_, hs⟩
    · rw [hs]
      refine ⟨fun q hq => ?_, fun j hj => ?_⟩
      · rw [← List.map_append] at hq
        obtain ⟨y, hy, rfl⟩ := List.mem_map.1 hq
        exact hh y hy
      · rcases List.mem_append.1 hj with hj | hj
        · exact h0.2 j hj
        · rw [List.mem_singleton.1 hj]; exact hp0
    · rw [hs]
      refine ⟨fun q hq => ?_, h0.2⟩
      rcases List.mem_append.1 hq with hq | hq
      · obtain ⟨y, hy, rfl⟩ := List.mem_map.1 hq
        exact hh y (List.mem_append_left _ hy)
      · rcases List.mem_cons.1 hq with rfl | hq
        · exact hp0
        · obtain ⟨y, hy, rfl⟩ := List.mem_map.1 hq
          exact hh y (List.mem_append_right _ hy)
theorem free_at : ∀ t : Nat, (∀ p ∈ (stAt l rel t).wt, p.blk = 0) ∧ ∀ j ∈ (stAt l rel t).out, j.f4 = 0
  | 0 => ⟨fun p hp => (by cases hp), fun j hj => (by cases hj)⟩
  | t + 1 => free_step hA hb (inv_at hA t) (free_at t) (by omega)
end
theorem rd_bareT (l : List S49) (t : Int) (h0 : 0 ≤ t) (h1 : t < (l.map bareT).length) : (rd_T49 (l.map bareT) t).f3 = [] := by
  obtain ⟨x, _, hx⟩ := List.mem_map.1 (rd49_mem h0 h1)
  rw [← hx]
  rfl
theorem plain_main {k : Nat} (hk : 90000 ≤ k) (l : List S49) (rel : List (List Int)) (a n8 : Int) (hw : ∀ r ∈ rel, r.length ≤ maxLen ∧ ∀ x ∈ r, (Lit.int .i64 x).wf = true) (w8 : (Lit.int .u8 n8).wf = true) : plainTail k rel a n8 (l.map bareT) = some true := by
  obtain ⟨k, rfl⟩ : ∃ m, k = m + 1 := ⟨k - 1, by omega⟩
  unfold plainTail
  rw [cawake_eq (by omega)]
  simp only [Option.bind_some]
  rw [if_pos trivial, fits_eq (by omega) (w64_of hw)]
  simp only [Option.bind_some]
  cases hf : fitsV (l.map bareT) rel a with
  | false =>
    show ontimelaw43_CeilingPlain.j1 (k + 1) rel a n8 _ true = some true
    simp only [ontimelaw43_CeilingPlain.j1]
    rw [if_pos trivial, cawake_eq (by omega)]
    rfl
  | true =>
    show ontimelaw43_CeilingPlain.j1 (k + 1) rel a n8 _ false = some true
    have hb : ∀ t : Int, 0 ≤ t → t < (l.map bareT).length → (rd_T49 (l.map bareT) t).f3 = [] := fun t h0 h1 => rd_bareT l t h0 h1
    generalize l.map bareT = m at hf hb
    obtain ⟨f1, f2, f3, f4, f5, f6, f7⟩ := fitsV_of hf
    have ha := fits_adm hf
    have hA := (Adm.of ha).1
    have hr : ∀ r ∈ rel, r.length ≤ 2000 ∧ W64 r := fun r h => ⟨by have := f7 r h; omega, w64_of hw r h⟩
    obtain ⟨n0, n1⟩ := b8 w8
    have hwl : wrap64 ((m.length : Int) + 1) = (m.length : Int) + 1 := wrap64_of (by omega) (by omega)
    obtain ⟨k0, k1⟩ := tmod_in n0 n1 (show 0 < (m.length : Int) + 1 by omega)
    simp only [ontimelaw43_CeilingPlain.j1]
    rw [if_neg (by simp), hwl]
    generalize Int.tmod (wrap64 n8) ((m.length : Int) + 1) = kz at k0 k1
    obtain ⟨kk, rfl⟩ : ∃ kk : Nat, kz = (kk : Int) := ⟨kz.toNat, by omega⟩
    rw [sim_eq (by omega) hr, ha, if_pos rfl]
    simp only [Option.bind_some, Int.toNat_natCast]
    rw [if_neg (by omega), if_pos (by omega), if_pos (by omega), if_pos (by omega), sim_eq (by omega) (fun r h => hr r (List.mem_of_mem_take h)), adm_take ha kk, if_pos rfl]
    simp only [Option.bind_some]
    have hlow := sim_low hA kk (by omega) (fun t h0 h1 => hb t (by omega) h1) a
    have hlen := simV_len m rel a
    have hfree := free_at hA hb a.toNat
    have := plain_l1 kk (simV (m.take kk) (rel.take kk) a) (simV m rel a) (by omega) (fun j hj => by rw [simV_st] at hj; exact hfree.2 j hj) (simV m rel a).length 0 k [] (by omega) (Nat.le_refl _) (by rw [List.drop_zero, List.nil_append]; exact hlow.symm) (by omega)
    rw [show ((0 : Nat) : Int) = 0 from rfl] at this
    exact this
theorem CeilingPlain {P Q S : Prop} (l : List S49) (rel : List (List Int)) (a n8 : Int) (_ : P) (_ : Q) (hy : l.length * 48 ≤ 140737488351232) (_ : S) (hw : ∀ r ∈ rel, r.length ≤ maxLen ∧ ∀ x ∈ r, (Lit.int .i64 x).wf = true) {T : Prop} (_ : T) {U : Prop} (_ : U) (w8 : (Lit.int .u8 n8).wf = true) :
    ∃ k, ontimelaw43_CeilingPlain.f k l rel a n8 = some true := by
  obtain ⟨q, hq⟩ : ∃ q : Nat, 90000 ≤ q := ⟨90000, Nat.le_refl _⟩
  refine ⟨q + (l.length + 1), ?_⟩
  unfold ontimelaw43_CeilingPlain.f
  have := plain_l0 rel a n8 l hy l.length 0 q [] (by omega) rfl
  rw [show ((0 : Nat) : Int) = 0 from rfl, List.drop_zero, List.nil_append] at this
  rw [this]
  exact plain_main hq l rel a n8 hw w8
end Go.Proofs.Ytcmifojplgmgkaa.Pure
