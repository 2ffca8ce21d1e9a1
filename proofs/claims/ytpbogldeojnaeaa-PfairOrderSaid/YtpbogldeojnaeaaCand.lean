/- The statements' candidates. -/
import Derived.Test.YtpbogldeojnaeaaBefore
import Derived.Test.YtpbogldeojnaeaaP13
set_option linter.unusedVariables false
namespace Go.Proofs.Ytpbogldeojnaeaa.Evs
open Go.RowKit Go.Proofs.Ytpbogldeojnaeaa.P Go.Proofs.YtpbogldeojnaeaaW.PrintWords Num
theorem cand_eq (n : Int) (b : ByteArray) (c p r i : Int) : ontimelaw45_candidate.f n b c p r i = some 0 ∨ (ontimelaw45_candidate.f n b c p r i = some 1 ∧ Fit n c p r i) := by
  unfold ontimelaw45_candidate.f
  rw [ref_valid_eq']
  simp only [Option.bind_some]
  by_cases hv : val c p = true
  · rw [if_pos hv]
    by_cases h1 : p > 60
    · rw [if_pos h1]; exact .inl rfl
    rw [if_neg h1]
    by_cases h2 : i < 1
    · rw [if_pos h2]; exact .inl rfl
    rw [if_neg h2]
    by_cases h3 : i > c
    · rw [if_pos h3]; exact .inl rfl
    rw [if_neg h3]
    by_cases h4 : mx n r > 1099511627776
    · rw [if_pos h4]; exact .inl rfl
    rw [if_neg h4]
    by_cases h5 : mn n r < -1099511627776
    · rw [if_pos h5]; exact .inl rfl
    rw [if_neg h5]
    refine .inr ⟨rfl, hv, by omega, by omega, ?_, ?_⟩
    · unfold mn at h5; omega
    · unfold mx at h4; omega
  · rw [if_neg hv]; exact .inl rfl
end Go.Proofs.Ytpbogldeojnaeaa.Evs
