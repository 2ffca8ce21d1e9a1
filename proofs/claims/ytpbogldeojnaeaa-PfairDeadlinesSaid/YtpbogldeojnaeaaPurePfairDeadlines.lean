/- The law PfairDeadlines, without Go. -/
import Derived.Test.YtpbogldeojnaeaaCand
import Derived.Test.YtpbogldeojnaeaaP16
set_option linter.unusedVariables false
namespace Go.Proofs.Ytpbogldeojnaeaa.Pure
open Go.RowKit Go.Proofs.Ytpbogldeojnaeaa.P Go.Proofs.YtpbogldeojnaeaaW.PrintWords Num Evs
section
variable {k : Nat} (b1 b2 : ByteArray) {n1 c1 p1 r1 i1 n2 c2 p2 r2 i2 : Int}
theorem deadlines_j2 (hk : 3002 ≤ k) (h1 : Fit n1 c1 p1 r1 i1) (h2 : Fit n2 c2 p2 r2 i2) (flag : Bool)
    (h : flag = true → bef n1 c1 p1 r1 i1 n2 c2 p2 r2 i2 = true ∧ bef n2 c2 p2 r2 i2 n1 c1 p1 r1 i1 = false) :
    ontimelaw45_PfairDeadlines.j2 k flag n1 b1 c1 p1 r1 i1 n2 b2 c2 p2 r2 i2 = some true := by
  obtain ⟨k, rfl⟩ : ∃ m, k = m + 1 := ⟨k - 1, by omega⟩
  simp only [ontimelaw45_PfairDeadlines.j2]
  cases flag with
  | false => rw [if_neg (by simp)]
  | true =>
    obtain ⟨e1, e2⟩ := h rfl
    rw [if_pos rfl, before_eq (by omega) b1 b2 h1 h2, e1]
    simp only [Option.bind_some]
    rw [if_pos trivial, before_eq (by omega) b2 b1 h2 h1, e2]
    rfl
theorem deadlines_j1 (hk : 3003 ≤ k) (h1 : Fit n1 c1 p1 r1 i1) (h2 : Fit n2 c2 p2 r2 i2) (x0 x1 y0 y1 : Int) :
    ontimelaw45_PfairDeadlines.j1 k false n1 b1 c1 p1 r1 i1 n2 b2 c2 p2 r2 i2 x0 x1 (dl c1 p1 i1) y0 y1 (dl c2 p2 i2) = some true := by
  obtain ⟨k, rfl⟩ : ∃ m, k = m + 1 := ⟨k - 1, by omega⟩
  obtain ⟨u1, u2, u3⟩ := val_true h1.v
  obtain ⟨v1, v2, v3⟩ := val_true h2.v
  have du := dl_pos u1 u2 h1.i1
  have du2 := dl_le_p u1 u2 h1.i2
  have dv := dl_pos v1 v2 h2.i1
  have dv2 := dl_le_p v1 v2 h2.i2
  have := h1.r1
  have := h1.r2
  have := h2.r1
  have := h2.r2
  simp only [ontimelaw45_PfairDeadlines.j1]
  rw [if_neg (by simp), overlaps_eq (by omega), ovl_ok h1.v h1.i1 h1.i2]
  simp only [Option.bind_some]
  rw [overlaps_eq (by omega), ovl_ok h2.v h2.i1 h2.i2]
  simp only [Option.bind_some]
  rw [wrap_of (x := r1 + dl c1 p1 i1) (by omega) (by omega), wrap_of (x := r2 + dl c2 p2 i2) (by omega) (by omega)]
  by_cases hl : r1 + dl c1 p1 i1 < r2 + dl c2 p2 i2
  · rw [if_pos hl]
    refine deadlines_j2 b1 b2 (by omega) h1 h2 true (fun _ => ?_)
    unfold bef lex
    rw [if_neg (by omega), if_neg (by omega)]
    exact ⟨decide_eq_true hl, decide_eq_false (by omega)⟩
  · rw [if_neg hl]
    by_cases he : r1 + dl c1 p1 i1 = r2 + dl c2 p2 i2
    · rw [if_pos he]
      by_cases hs : ov c1 p1 i1 = true
      · rw [if_pos hs]
        refine deadlines_j2 b1 b2 (by omega) h1 h2 _ (fun h => ?_)
        have ht : ov c2 p2 i2 = false := by simpa using h
        unfold bef lex
        rw [if_pos he, if_pos he.symm, hs, ht]
        exact ⟨rfl, rfl⟩
      · rw [if_neg hs]
        exact deadlines_j2 b1 b2 (by omega) h1 h2 false (fun h => by cases h)
    · rw [if_neg he]
      exact deadlines_j2 b1 b2 (by omega) h1 h2 false (fun h => by cases h)
theorem deadlines_j0 (hk : 3004 ≤ k) (flag : Bool) (h : flag = false → Fit n1 c1 p1 r1 i1 ∧ Fit n2 c2 p2 r2 i2) :
    ontimelaw45_PfairDeadlines.j0 k flag n1 b1 c1 p1 r1 i1 n2 b2 c2 p2 r2 i2 = some true := by
  obtain ⟨k, rfl⟩ : ∃ m, k = m + 1 := ⟨k - 1, by omega⟩
  simp only [ontimelaw45_PfairDeadlines.j0]
  cases flag with
  | true => rw [if_pos rfl]
  | false =>
    obtain ⟨h1, h2⟩ := h rfl
    rw [if_neg (by simp), window_eq (by omega), win_ok h1.v h1.i1 h1.i2]
    simp only [Option.bind_some]
    rw [window_eq (by omega), win_ok h2.v h2.i1 h2.i2]
    simp only [Option.bind_some]
    rw [if_pos trivial, bne_self_eq_false]
    exact deadlines_j1 b1 b2 (by omega) h1 h2 _ _ _ _
end
theorem PfairDeadlines (n1 : Int) (b1 : ByteArray) (c1 p1 r1 i1 n2 : Int) (b2 : ByteArray) (c2 p2 r2 i2 : Int) (_ : (Lit.int .i64 n1).wf = true) (_ : b1.size ≤ maxLen) (_ : (Lit.int .i64 c1).wf = true) (_ : (Lit.int .i64 p1).wf = true) (_ : (Lit.int .i64 r1).wf = true) (_ : (Lit.int .i64 i1).wf = true)
    (_ : (Lit.int .i64 n2).wf = true) (_ : b2.size ≤ maxLen) (_ : (Lit.int .i64 c2).wf = true) (_ : (Lit.int .i64 p2).wf = true) (_ : (Lit.int .i64 r2).wf = true) (_ : (Lit.int .i64 i2).wf = true) :
    ∃ k, ontimelaw45_PfairDeadlines.f k n1 b1 c1 p1 r1 i1 n2 b2 c2 p2 r2 i2 = some true := by
  refine ⟨4000, ?_⟩
  unfold ontimelaw45_PfairDeadlines.f
  rw [awake_eq (by omega)]
  simp only [Option.bind_some]
  rw [if_pos trivial]
  rcases cand_eq n1 b1 c1 p1 r1 i1 with e1 | ⟨e1, f1⟩
  · rw [e1]
    simp only [Option.bind_some]
    rw [if_pos trivial]
    exact deadlines_j0 b1 b2 (by omega) true (fun h => by cases h)
  rw [e1]
  simp only [Option.bind_some]
  rw [if_neg (by decide)]
  rcases cand_eq n2 b2 c2 p2 r2 i2 with e2 | ⟨e2, f2⟩
  · rw [e2]
    simp only [Option.bind_some]
    rw [beq_self_eq_true]
    exact deadlines_j0 b1 b2 (by omega) true (fun h => by cases h)
  rw [e2]
  simp only [Option.bind_some]
  exact deadlines_j0 b1 b2 (by omega) _ (fun _ => ⟨f1, f2⟩)
end Go.Proofs.Ytpbogldeojnaeaa.Pure
