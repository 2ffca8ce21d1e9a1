/- Equal rows of jobs; the first tasks alone are permitted. -/
import Derived.Test.YtcmifojplgmgkaaCRef
import Derived.Test.YtcmifojplgmgkaaCRes
set_option linter.unusedVariables false
set_option linter.unusedSectionVars false
namespace Go.Proofs.Ytcmifojplgmgkaa.CEv
open Go.RowKit Go.Proofs.Ytcmifojplgmgkaa.P Go.Proofs.YtcmifojplgmgkaaW.PrintWords Go.Proofs.YtcmifojplgmgkaaW.PrintMore
theorem job_l0 (xs : List S34) (hl : xs.length ≤ 1000000) : ∀ (n i k : Nat), i + n = xs.length → n + 1 ≤ k → ceiling_Job.l0 k xs xs (xs.length : Int) (i : Int) = some true := by
  intro n
  induction n with
  | zero =>
    intro i k hi hk
    obtain ⟨k, rfl⟩ : ∃ m, k = m + 1 := ⟨k - 1, by omega⟩
    simp only [ceiling_Job.l0]
    rw [if_neg (by omega)]
  | succ n ih =>
    intro i k hi hk
    obtain ⟨k, rfl⟩ : ∃ m, k = m + 1 := ⟨k - 1, by omega⟩
    simp only [ceiling_Job.l0]
    rw [if_pos (by omega), if_pos (by omega), if_pos (by omega), if_pos (by omega), if_neg (by simp), wrap64_of (x := (i : Int) + 1) (by omega) (by omega)]
    exact ih (i + 1) k (by omega) (by omega)
theorem job_eq {k : Nat} {xs : List S34} (hl : xs.length ≤ 1000000) (hk : xs.length + 1 ≤ k) : ceiling_Job.f k xs xs = some true := by
  unfold ceiling_Job.f
  rw [if_pos rfl]
  have := job_l0 xs hl xs.length 0 k (by omega) (by omega)
  rw [show ((0 : Nat) : Int) = 0 from rfl] at this
  exact this
theorem vld_take {l : List S49} (h : vld l = true) (k : Nat) : vld (l.take k) = true := by
  obtain ⟨h1, h2⟩ := vld_of h
  unfold vld
  rw [Bool.and_eq_true]
  exact ⟨decide_eq_true (by rw [List.length_take]; omega), List.all_eq_true.2 fun t ht => h2 t (List.mem_of_mem_take ht)⟩
theorem spc_take {l : List S49} {rel : List (List Int)} (h : spcAll l rel = true) (k : Nat) : spcAll (l.take k) (rel.take k) = true := by
  unfold spcAll at *
  refine List.all_eq_true.2 fun x hx => ?_
  obtain ⟨i, hi⟩ := List.mem_iff_getElem?.1 hx
  rw [List.getElem?_zip_eq_some] at hi
  obtain ⟨h1, h2⟩ := hi
  rw [List.getElem?_take] at h1 h2
  by_cases c : i < k
  · rw [if_pos c] at h1 h2
    exact List.all_eq_true.1 h x (List.mem_iff_getElem?.2 ⟨i, List.getElem?_zip_eq_some.2 ⟨h1, h2⟩⟩)
  · rw [if_neg c] at h1
    cases h1
theorem adm_take {l : List S49} {rel : List (List Int)} {a : Int} (h : admV l rel a = 0) (k : Nat) : admV (l.take k) (rel.take k) a = 0 := by
  unfold admV at h
  by_cases h1 : vld l = true ∧ rel.length = l.length
  · rw [if_pos h1] at h
    by_cases h2 : 0 ≤ a ∧ a ≤ 100000
    · rw [if_pos h2] at h
      by_cases h3 : spcAll l rel = true
      · unfold admV
        rw [if_pos ⟨vld_take h1.1 k, by rw [List.length_take, List.length_take, h1.2]⟩, if_pos h2, if_pos (spc_take h3 k)]
      · rw [if_neg h3] at h; exact absurd h (by decide)
    · rw [if_neg h2] at h; exact absurd h (by decide)
  · rw [if_neg h1] at h; exact absurd h (by decide)
/-- At most one job ends a unit. -/
theorem out_len {l : List S49} {rel : List (List Int)} : ∀ t : Nat, (stAt l rel t).out.length ≤ t
  | 0 => Nat.le_refl _
  | t + 1 => by
    have ih := out_len (l := l) (rel := rel) t
    show (stepV l rel (t : Int) (stAt l rel t)).out.length ≤ t + 1
    rcases step_cases l rel (t : Int) (stAt l rel t) with ⟨_, hs⟩ | ⟨pre, p, post, _, _, ⟨_, hs⟩ | ⟨_, hs⟩⟩
    · rw [hs]; show (stAt l rel t).out.length ≤ t + 1; omega
    · rw [hs]; show ((stAt l rel t).out ++ [_]).length ≤ t + 1; rw [List.length_append]; simp; omega
    · rw [hs]; show (stAt l rel t).out.length ≤ t + 1; omega
theorem simV_len (l : List S49) (rel : List (List Int)) (a : Int) : (simV l rel a).length ≤ a.toNat := by rw [simV_st]; exact out_len _
theorem tmod_in {a n : Int} (ha : 0 ≤ a) (ha2 : a ≤ 255) (hn : 0 < n) : 0 ≤ Int.tmod (wrap64 a) n ∧ Int.tmod (wrap64 a) n < n := by
  rw [wrap64_of (by omega) (by omega), Int.tmod_eq_emod_of_nonneg ha]
  exact ⟨Int.emod_nonneg _ (by omega), Int.emod_lt_of_pos _ hn⟩
theorem b8 {a : Int} (h : (Lit.int .u8 a).wf = true) : 0 ≤ a ∧ a ≤ 255 := by
  have := (Lit.wf_int_iff _ _).1 h
  rwa [show IntKind.u8.min = 0 from by decide, show IntKind.u8.max = 255 from by decide] at this
theorem rd34_at (l : List S34) (i : Nat) (h : i < l.length) : rd_T34 l (i : Int) = l[i] := by
  unfold rd_T34
  rw [Int.toNat_natCast, List.getD_eq_getElem?_getD, List.getElem?_eq_getElem h]
  rfl
end Go.Proofs.Ytcmifojplgmgkaa.CEv
