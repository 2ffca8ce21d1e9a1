/- The law PfairBefore, without Go. -/
import Derived.Test.YtpbogldeojnaeaaCand
import Derived.Test.YtpbogldeojnaeaaP14
import Derived.Test.YtpbogldeojnaeaaP13
set_option linter.unusedVariables false
namespace Go.Proofs.Ytpbogldeojnaeaa.Pure
open Go.RowKit Go.Proofs.Ytpbogldeojnaeaa.P Go.Proofs.YtpbogldeojnaeaaW.PrintWords Num Evs
theorem ref_before_j0 {k : Nat} (hk : 1013001 ≤ k) {x n1 c1 p1 r1 i1 n2 c2 p2 r2 i2 : Int} (h2 : Fit n2 c2 p2 r2 i2) :
    ontimeref45_Before.j0 k x 0 n1 c1 p1 r1 i1 n2 c2 p2 r2 i2 = some (if x = ag c2 p2 r2 i2 then decide (n1 < n2) else decide (x > ag c2 p2 r2 i2)) := by
  obtain ⟨k, rfl⟩ : ∃ m, k = m + 1 := ⟨k - 1, by omega⟩
  have hb := grpv_bd h2.v h2.i1 h2.i2
  have := h2.r1
  have := h2.r2
  simp only [ontimeref45_Before.j0]
  unfold ag
  rw [ref_heavy_eq h2.v]
  simp only [Option.bind_some]
  by_cases hh : hvy c2 p2 = true
  · rw [if_pos hh, if_pos hh, grpv_ref h2.v h2.i1 h2.i2 (by omega)]
    simp only [Option.bind_some]
    rw [wrap_of (by omega) (by omega)]
    by_cases hx : x = r2 + grpv c2 p2 i2
    · rw [if_pos hx, if_pos hx]
    · rw [if_neg hx, if_neg hx]
  · rw [if_neg hh, if_neg hh]
    by_cases hx : x = 0
    · rw [if_pos hx, if_pos hx]
    · rw [if_neg hx, if_neg hx]
theorem ref_before_eq {k : Nat} (hk : 1013002 ≤ k) {n1 c1 p1 r1 i1 n2 c2 p2 r2 i2 : Int} (h1 : Fit n1 c1 p1 r1 i1) (h2 : Fit n2 c2 p2 r2 i2) :
    ontimeref45_Before.f k n1 c1 p1 r1 i1 n2 c2 p2 r2 i2 = some (bef n1 c1 p1 r1 i1 n2 c2 p2 r2 i2) := by
  obtain ⟨u1, u2, u3⟩ := val_true h1.v
  obtain ⟨v1, v2, v3⟩ := val_true h2.v
  have du := dl_pos u1 u2 h1.i1
  have du2 := dl_le_p u1 u2 h1.i2
  have dv := dl_pos v1 v2 h2.i1
  have dv2 := dl_le_p v1 v2 h2.i2
  have := h1.r1
  have := h1.r2
  have := h2.r1
  have := h2.r2
  have hb := grpv_bd h1.v h1.i1 h1.i2
  unfold ontimeref45_Before.f
  rw [ref_window_eq h1.v h1.i1 h1.i2, ref_window_eq h2.v h2.i1 h2.i2]
  simp only [Option.bind_some]
  rw [wrap_of (x := r1 + dl c1 p1 i1) (by omega) (by omega), wrap_of (x := r2 + dl c2 p2 i2) (by omega) (by omega)]
  unfold bef lex
  by_cases hD : r1 + dl c1 p1 i1 = r2 + dl c2 p2 i2
  · rw [if_pos hD, if_pos hD, ref_overlaps_eq h1.v h1.i1 h1.i2]
    simp only [Option.bind_some]
    rw [ref_overlaps_eq h2.v h2.i1 h2.i2]
    simp only [Option.bind_some]
    by_cases hs : (ov c1 p1 i1 != ov c2 p2 i2) = true
    · rw [if_pos hs, if_pos hs]
    · rw [if_neg hs, if_neg hs]
      by_cases ht : ov c1 p1 i1 = true
      · rw [if_pos ht, if_pos ht, ref_heavy_eq h1.v]
        simp only [Option.bind_some]
        by_cases hh : hvy c1 p1 = true
        · rw [if_pos hh, grpv_ref h1.v h1.i1 h1.i2 (by omega)]
          simp only [Option.bind_some]
          rw [wrap_of (x := r1 + grpv c1 p1 i1) (by omega) (by omega), ref_before_j0 (by omega) h2]
          have : ag c1 p1 r1 i1 = r1 + grpv c1 p1 i1 := by unfold ag; rw [if_pos hh]
          rw [this]
        · rw [if_neg hh, ref_before_j0 (by omega) h2]
          have : ag c1 p1 r1 i1 = 0 := by unfold ag; rw [if_neg hh]
          rw [this]
      · rw [if_neg ht, if_neg ht]
  · rw [if_neg hD, if_neg hD]
theorem before_j1 {k : Nat} (hk : 1013003 ≤ k) (b1 b2 : ByteArray) {n1 c1 p1 r1 i1 n2 c2 p2 r2 i2 : Int} (flag : Bool) (h : flag = false → Fit n1 c1 p1 r1 i1 ∧ Fit n2 c2 p2 r2 i2) :
    ontimelaw45_PfairBefore.j1 k flag n1 b1 c1 p1 r1 i1 n2 b2 c2 p2 r2 i2 = some true := by
  obtain ⟨k, rfl⟩ : ∃ m, k = m + 1 := ⟨k - 1, by omega⟩
  simp only [ontimelaw45_PfairBefore.j1]
  cases flag with
  | true => rw [if_pos rfl]
  | false =>
    obtain ⟨h1, h2⟩ := h rfl
    unfold ontimelaw45_plain.f
    rw [if_neg (by simp), before_eq (by omega) b1 b2 h1 h2]
    simp only [Option.bind_some]
    rw [ref_before_eq (by omega) h1 h2]
    simp only [Option.bind_some]
    rw [beq_self_eq_true]
theorem before_j0 {k : Nat} (hk : 1013004 ≤ k) (b1 b2 : ByteArray) {n1 c1 p1 r1 i1 n2 c2 p2 r2 i2 : Int} (flag : Bool) (h : flag = true → ¬ (val c1 p1 = true ∧ val c2 p2 = true ∧ 1 ≤ i1 ∧ i1 ≤ c1 ∧ 1 ≤ i2 ∧ i2 ≤ c2)) :
    ontimelaw45_PfairBefore.j0 k flag n1 b1 c1 p1 r1 i1 n2 b2 c2 p2 r2 i2 = some true := by
  obtain ⟨k, rfl⟩ : ∃ m, k = m + 1 := ⟨k - 1, by omega⟩
  simp only [ontimelaw45_PfairBefore.j0]
  cases flag with
  | true =>
    rw [if_pos rfl, before_bad (by omega) b1 b2 n1 c1 p1 r1 i1 n2 c2 p2 r2 i2 (h rfl)]
    rfl
  | false =>
    rw [if_neg (by simp)]
    rcases cand_eq n1 b1 c1 p1 r1 i1 with e1 | ⟨e1, f1⟩
    · rw [e1]
      simp only [Option.bind_some]
      rw [if_pos trivial]
      exact before_j1 (by omega) b1 b2 true (fun h => by cases h)
    · rw [e1]
      simp only [Option.bind_some]
      rw [if_neg (by decide)]
      rcases cand_eq n2 b2 c2 p2 r2 i2 with e2 | ⟨e2, f2⟩
      · rw [e2]
        simp only [Option.bind_some]
        rw [beq_self_eq_true]
        exact before_j1 (by omega) b1 b2 true (fun h => by cases h)
      · rw [e2]
        simp only [Option.bind_some]
        exact before_j1 (by omega) b1 b2 _ (fun _ => ⟨f1, f2⟩)
theorem PfairBefore (n1 : Int) (b1 : ByteArray) (c1 p1 r1 i1 n2 : Int) (b2 : ByteArray) (c2 p2 r2 i2 : Int) (_ : (Lit.int .i64 n1).wf = true) (_ : b1.size ≤ maxLen) (_ : (Lit.int .i64 c1).wf = true) (_ : (Lit.int .i64 p1).wf = true) (_ : (Lit.int .i64 r1).wf = true) (_ : (Lit.int .i64 i1).wf = true)
    (_ : (Lit.int .i64 n2).wf = true) (_ : b2.size ≤ maxLen) (_ : (Lit.int .i64 c2).wf = true) (_ : (Lit.int .i64 p2).wf = true) (_ : (Lit.int .i64 r2).wf = true) (_ : (Lit.int .i64 i2).wf = true) :
    ∃ k, ontimelaw45_PfairBefore.f k n1 b1 c1 p1 r1 i1 n2 b2 c2 p2 r2 i2 = some true := by
  obtain ⟨k, hk⟩ : ∃ k : Nat, 1013004 ≤ k := ⟨1013004, Nat.le_refl _⟩
  refine ⟨k, ?_⟩
  unfold ontimelaw45_PfairBefore.f
  rw [awake_eq (by omega)]
  simp only [Option.bind_some]
  rw [if_pos trivial, ref_valid_eq', ref_valid_eq']
  simp only [Option.bind_some]
  by_cases hv1 : val c1 p1 = true
  · rw [if_pos hv1]
    by_cases hv2 : val c2 p2 = true
    · rw [if_pos hv2]
      by_cases h1 : i1 < 1
      · rw [if_pos h1]; exact before_j0 hk b1 b2 true (fun _ h => by omega)
      rw [if_neg h1]
      by_cases h2 : i1 > c1
      · rw [if_pos h2]; exact before_j0 hk b1 b2 true (fun _ h => by omega)
      rw [if_neg h2]
      by_cases h3 : i2 < 1
      · rw [if_pos h3]; exact before_j0 hk b1 b2 true (fun _ h => by omega)
      rw [if_neg h3]
      refine before_j0 hk b1 b2 _ (fun h hh => ?_)
      have := of_decide_eq_true h
      omega
    · rw [if_neg hv2]; exact before_j0 hk b1 b2 true (fun _ h => hv2 h.2.1)
  · rw [if_neg hv1]; exact before_j0 hk b1 b2 true (fun _ h => hv1 h.1)
end Go.Proofs.Ytpbogldeojnaeaa.Pure
