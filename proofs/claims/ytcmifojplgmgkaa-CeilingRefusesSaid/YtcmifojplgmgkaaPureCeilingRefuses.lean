/- The law CeilingRefuses, without Go. -/
import Derived.Test.YtcmifojplgmgkaaP37
import Derived.Test.YtcmifojplgmgkaaCVal
set_option linter.unusedVariables false
namespace Go.Proofs.Ytcmifojplgmgkaa.Pure
open Go.RowKit Go.Proofs.Ytcmifojplgmgkaa.P Go.Proofs.YtcmifojplgmgkaaW.PrintWords CEv
theorem refuses_true {k : Nat} (hk : 41001 ≤ k) (l : List S49) (rel : List (List Int)) (a : Int) : ontimelaw43_CeilingRefuses.j0 k l rel a true = some true := by
  obtain ⟨k, rfl⟩ : ∃ m, k = m + 1 := ⟨k - 1, by omega⟩
  simp only [ontimelaw43_CeilingRefuses.j0]
  rw [if_pos trivial, cawake_eq (by omega)]
  rfl
section
variable {l : List S49} {rel : List (List Int)} {a : Int} (hr : ∀ r ∈ rel, r.length ≤ 12 ∧ W64 r)
include hr
theorem few_len : ∀ r ∈ rel, r.length ≤ 2000 ∧ W64 r := fun r h => ⟨by have := (hr r h).1; omega, (hr r h).2⟩
theorem refuses_j2t {k : Nat} (hk : 41001 ≤ k) (x : Int) (h : admV l rel a = 2) : ontimelaw43_CeilingRefuses.j2 k l rel a x true = some true := by
  obtain ⟨k, rfl⟩ : ∃ m, k = m + 1 := ⟨k - 1, by omega⟩
  simp only [ontimelaw43_CeilingRefuses.j2]
  rw [if_pos trivial, sim_eq (by omega) (few_len hr), h]
  rfl
theorem refuses_j2f {k : Nat} (hk : 41001 ≤ k) (h : admV l rel a = 0) : ontimelaw43_CeilingRefuses.j2 k l rel a 0 false = some true := by
  obtain ⟨k, rfl⟩ : ∃ m, k = m + 1 := ⟨k - 1, by omega⟩
  simp only [ontimelaw43_CeilingRefuses.j2]
  rw [if_neg (by simp), sim_eq (by omega) (few_len hr), h]
  by_cases h3 : a > 300
  · rw [if_pos h3]
  · rw [if_neg h3]
    rfl
theorem refuses_j1t {k : Nat} (hk : 41001 ≤ k) (x : Int) (h : admV l rel a = 1) : ontimelaw43_CeilingRefuses.j1 k l rel a x true = some true := by
  obtain ⟨k, rfl⟩ : ∃ m, k = m + 1 := ⟨k - 1, by omega⟩
  simp only [ontimelaw43_CeilingRefuses.j1]
  rw [if_pos trivial, sim_eq (by omega) (few_len hr), h]
  rfl
theorem refuses_j1f {k : Nat} (hk : 90000 ≤ k) (h40 : l.length ≤ 6) (h16 : ∀ t ∈ l, t.f3.length ≤ 16) (hv : vld l = true) (he : rel.length = l.length) : ontimelaw43_CeilingRefuses.j1 k l rel a 0 false = some true := by
  obtain ⟨k, rfl⟩ : ∃ m, k = m + 1 := ⟨k - 1, by omega⟩
  simp only [ontimelaw43_CeilingRefuses.j1]
  rw [if_neg (by simp), cplain_eq (by omega) (by omega) h16]
  simp only [Option.bind_some]
  rw [spaced_eq (by omega) he (few_len hr) (by omega)]
  simp only [Option.bind_some]
  by_cases h1 : a < 0
  · rw [if_pos h1]
    exact refuses_j2t hr (by omega) 0 (by unfold admV; rw [if_pos ⟨hv, he⟩, if_neg (by omega)])
  · rw [if_neg h1]
    by_cases h2 : a > 100000
    · rw [if_pos h2]
      exact refuses_j2t hr (by omega) 0 (by unfold admV; rw [if_pos ⟨hv, he⟩, if_neg (by omega)])
    · rw [if_neg h2]
      cases hs : spcAll l rel with
      | true => exact refuses_j2f hr (by omega) (by unfold admV; rw [if_pos ⟨hv, he⟩, if_pos (by omega), if_pos hs])
      | false => exact refuses_j2t hr (by omega) 0 (by unfold admV; rw [if_pos ⟨hv, he⟩, if_pos (by omega), if_neg (by rw [hs]; simp)])
end
theorem CeilingRefuses {P Q R S : Prop} (l : List S49) (rel : List (List Int)) (a : Int) (_ : P) (_ : Q) (_ : R) (_ : S) (hw : ∀ r ∈ rel, r.length ≤ maxLen ∧ ∀ x ∈ r, (Lit.int .i64 x).wf = true) {T : Prop} (_ : T) {U : Prop} (_ : U) :
    ∃ k, ontimelaw43_CeilingRefuses.f k l rel a = some true := by
  refine ⟨100000, ?_⟩
  unfold ontimelaw43_CeilingRefuses.f
  rw [cawake_eq (by omega)]
  simp only [Option.bind_some]
  rw [if_pos trivial, few_eq (by omega)]
  simp only [Option.bind_some]
  cases hf : fewV l rel (mn a 300) with
  | false => exact refuses_true (by omega) l rel a
  | true =>
    obtain ⟨f1, f2, f3, f4, f5⟩ := fewV_of hf
    have hr : ∀ r ∈ rel, r.length ≤ 12 ∧ W64 r := fun r h => ⟨f5 r h, w64_of hw r h⟩
    show ontimelaw43_CeilingRefuses.j0 (99999 + 1) l rel a false = some true
    simp only [ontimelaw43_CeilingRefuses.j0]
    rw [if_neg (by simp), cplain_eq (by omega) (by omega) f4]
    simp only [Option.bind_some]
    rw [refvalid_eq (by omega) (by omega) f4]
    simp only [Option.bind_some]
    cases hv : vld l with
    | false =>
      rw [if_neg (by simp)]
      exact refuses_j1t hr (by omega) 0 (by unfold admV; rw [if_neg (fun h => by rw [hv] at h; exact absurd h.1 (by simp))])
    | true =>
      rw [if_pos rfl]
      by_cases he : rel.length = l.length
      · rw [show ((rel.length : Int) != (l.length : Int)) = false by rw [he]; simp]
        exact refuses_j1f hr (by omega) f1 f4 hv he
      · rw [show ((rel.length : Int) != (l.length : Int)) = true by simp; omega]
        exact refuses_j1t hr (by omega) 0 (by unfold admV; rw [if_neg (fun h => he h.2)])
end Go.Proofs.Ytcmifojplgmgkaa.Pure
