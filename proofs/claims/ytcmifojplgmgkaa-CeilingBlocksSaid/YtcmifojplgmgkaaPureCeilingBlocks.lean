/- The law CeilingBlocks, without Go: a job is blocked by at most one section, and only before it starts. -/
import Derived.Test.YtcmifojplgmgkaaP33
import Derived.Test.YtcmifojplgmgkaaCEq
import Derived.Test.YtcmifojplgmgkaaCBlk
set_option linter.unusedVariables false
namespace Go.Proofs.Ytcmifojplgmgkaa.Pure
open Go.RowKit Go.Proofs.Ytcmifojplgmgkaa.P Go.Proofs.YtcmifojplgmgkaaW.PrintWords CEv
theorem CeilingBlocks {P Q R S : Prop} (l : List S49) (rel : List (List Int)) (a : Int) (_ : P) (_ : Q) (_ : R) (_ : S) (hw : ∀ r ∈ rel, r.length ≤ maxLen ∧ ∀ x ∈ r, (Lit.int .i64 x).wf = true) {T : Prop} (_ : T) {U : Prop} (_ : U) :
    ∃ k, ontimelaw43_CeilingBlocks.f k l rel a = some true := by
  obtain ⟨k, hk⟩ : ∃ k : Nat, 90000 ≤ k := ⟨90000, Nat.le_refl _⟩
  refine ⟨k, ?_⟩
  unfold ontimelaw43_CeilingBlocks.f
  rw [cawake_eq (by omega)]
  simp only [Option.bind_some]
  rw [if_pos trivial, fits_eq (by omega) (w64_of hw)]
  simp only [Option.bind_some]
  by_cases hf : fitsV l rel a = true
  · obtain ⟨f1, f2, f3, f4, f5, f6, f7⟩ := fitsV_of hf
    have ha := fits_adm hf
    have hA := (Adm.of ha).1
    rw [if_pos hf, sim_eq (by omega) (fun r h => ⟨by have := f7 r h; omega, w64_of hw r h⟩), ha, if_pos rfl]
    simp only [Option.bind_some]
    have ho := (blk_at hA a.toNat).2
    have hl := simV_len l rel a
    rw [if_pos]
    unfold blkOk
    rw [Bool.and_eq_true]
    refine ⟨decide_eq_true ⟨rfl, f4, by show (simV l rel a).length ≤ 100000; omega⟩, List.all_eq_true.2 fun j hj => ?_⟩
    have hj' : j ∈ (stAt l rel a.toNat).out := by rw [← simV_st]; exact hj
    obtain ⟨a1, a2, a3, a4, a5, a6, a7, a8, a9⟩ := ho j hj'
    exact decide_eq_true ⟨a1, a2, a3, a4, a5, a6, by omega, a8, by omega⟩
  · rw [if_neg hf]
end Go.Proofs.Ytcmifojplgmgkaa.Pure
