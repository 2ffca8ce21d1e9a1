/- The chapter's example holds. -/
import Derived.Test.YtpbogldeojnaeaaP4
import Derived.Test.YtpbogldeojnaeaaEvs
set_option linter.unusedVariables false
namespace Go.Proofs.Ytpbogldeojnaeaa.Evs
open Go.RowKit Go.Proofs.Ytpbogldeojnaeaa.P Go.Proofs.YtpbogldeojnaeaaW.PrintWords Num
theorem grp1 : IsGrp 5 8 1 3 := by
  refine ⟨2, by decide, by decide, by decide, by decide, fun j h1 h2 => ?_⟩
  obtain rfl : j = 1 := by omega
  decide
theorem grp3 : IsGrp 5 8 3 6 := by
  refine ⟨4, by decide, by decide, by decide, by decide, fun j h1 h2 => ?_⟩
  obtain rfl : j = 3 := by omega
  decide
theorem awake_eq {k : Nat} (hk : 3000 ≤ k) : ontimelaw45_awake.f k = some true := by
  obtain ⟨g1, e1, h1⟩ := group_heavy hk ⟨#[]⟩ (show hvy 5 8 = true by decide) (show (1 : Int) ≤ 1 by decide) (by decide)
  obtain ⟨g3, e3, h3⟩ := group_heavy hk ⟨#[]⟩ (show hvy 5 8 = true by decide) (show (1 : Int) ≤ 3 by decide) (by decide)
  have q1 := h1.unique grp1
  have q3 := h3.unique grp3
  subst q1 q3
  unfold ontimelaw45_awake.f
  rw [window_eq (by omega), show win 5 8 2 = (2, 1, 4, 0) from by decide]
  simp only [Option.bind_some]
  rw [overlaps_eq (by omega), show ovl 5 8 4 = true from by decide, overlaps_eq (by omega), show ovl 5 8 5 = false from by decide]
  simp only [Option.bind_some]
  rw [e1, e3, heavy_eq (by omega), show hvy 5 8 = true from by decide]
  rfl
end Go.Proofs.Ytpbogldeojnaeaa.Evs
