/- The law PfairOrder, without Go. -/
import Derived.Test.YtpbogldeojnaeaaCand
import Derived.Test.YtpbogldeojnaeaaP15
set_option linter.unusedVariables false
namespace Go.Proofs.Ytpbogldeojnaeaa.Pure
open Go.RowKit Go.Proofs.Ytpbogldeojnaeaa.P Go.Proofs.YtpbogldeojnaeaaW.PrintWords Num Evs
section
variable {k : Nat} (b1 b2 b3 : ByteArray) {n1 c1 p1 r1 i1 n2 c2 p2 r2 i2 n3 c3 p3 r3 i3 : Int}
theorem order_j1 (hk : 3002 ≤ k) (h1 : Fit n1 c1 p1 r1 i1) (h2 : Fit n2 c2 p2 r2 i2) (h3 : Fit n3 c3 p3 r3 i3) :
    ontimelaw45_PfairOrder.j1 k false n1 b1 c1 p1 r1 i1 n2 b2 c2 p2 r2 i2 n3 b3 c3 p3 r3 i3 = some true := by
  obtain ⟨k, rfl⟩ : ∃ m, k = m + 1 := ⟨k - 1, by omega⟩
  simp only [ontimelaw45_PfairOrder.j1]
  rw [if_neg (by simp), before_eq (by omega) b1 b2 h1 h2]
  simp only [Option.bind_some]
  by_cases e1 : bef n1 c1 p1 r1 i1 n2 c2 p2 r2 i2 = true
  · rw [if_pos e1, before_eq (by omega) b2 b3 h2 h3]
    simp only [Option.bind_some]
    by_cases e2 : bef n2 c2 p2 r2 i2 n3 c3 p3 r3 i3 = true
    · rw [if_pos e2, before_eq (by omega) b1 b3 h1 h3]
      simp only [Option.bind_some]
      have : bef n1 c1 p1 r1 i1 n3 c3 p3 r3 i3 = true := lex_trans e1 e2
      rw [this]
    · rw [if_neg e2]
  · rw [if_neg e1]
theorem order_j0 (hk : 3003 ≤ k) (flag : Bool) (h : flag = false → Fit n1 c1 p1 r1 i1 ∧ Fit n2 c2 p2 r2 i2 ∧ Fit n3 c3 p3 r3 i3 ∧ n1 ≠ n2) :
    ontimelaw45_PfairOrder.j0 k flag n1 b1 c1 p1 r1 i1 n2 b2 c2 p2 r2 i2 n3 b3 c3 p3 r3 i3 = some true := by
  obtain ⟨k, rfl⟩ : ∃ m, k = m + 1 := ⟨k - 1, by omega⟩
  simp only [ontimelaw45_PfairOrder.j0]
  cases flag with
  | true => rw [if_pos rfl]
  | false =>
    obtain ⟨h1, h2, h3, hn⟩ := h rfl
    rw [if_neg (by simp), before_eq (by omega) b1 b1 h1 h1, show bef n1 c1 p1 r1 i1 n1 c1 p1 r1 i1 = false from lex_irrefl _ _ _ _]
    simp only [Option.bind_some]
    rw [if_neg (by simp), before_eq (by omega) b1 b2 h1 h2]
    simp only [Option.bind_some]
    rw [before_eq (by omega) b2 b1 h2 h1]
    simp only [Option.bind_some]
    have : bef n1 c1 p1 r1 i1 n2 c2 p2 r2 i2 ≠ bef n2 c2 p2 r2 i2 n1 c1 p1 r1 i1 := lex_total hn
    rw [beq_eq_false_iff_ne.2 this]
    exact order_j1 b1 b2 b3 (by omega) h1 h2 h3
end
theorem PfairOrder (n1 : Int) (b1 : ByteArray) (c1 p1 r1 i1 n2 : Int) (b2 : ByteArray) (c2 p2 r2 i2 n3 : Int) (b3 : ByteArray) (c3 p3 r3 i3 : Int)
    (_ : (Lit.int .i64 n1).wf = true) (_ : b1.size ≤ maxLen) (_ : (Lit.int .i64 c1).wf = true) (_ : (Lit.int .i64 p1).wf = true) (_ : (Lit.int .i64 r1).wf = true) (_ : (Lit.int .i64 i1).wf = true)
    (_ : (Lit.int .i64 n2).wf = true) (_ : b2.size ≤ maxLen) (_ : (Lit.int .i64 c2).wf = true) (_ : (Lit.int .i64 p2).wf = true) (_ : (Lit.int .i64 r2).wf = true) (_ : (Lit.int .i64 i2).wf = true)
    (_ : (Lit.int .i64 n3).wf = true) (_ : b3.size ≤ maxLen) (_ : (Lit.int .i64 c3).wf = true) (_ : (Lit.int .i64 p3).wf = true) (_ : (Lit.int .i64 r3).wf = true) (_ : (Lit.int .i64 i3).wf = true) :
    ∃ k, ontimelaw45_PfairOrder.f k n1 b1 c1 p1 r1 i1 n2 b2 c2 p2 r2 i2 n3 b3 c3 p3 r3 i3 = some true := by
  refine ⟨4000, ?_⟩
  unfold ontimelaw45_PfairOrder.f
  rw [awake_eq (by omega)]
  simp only [Option.bind_some]
  rw [if_pos trivial]
  rcases cand_eq n1 b1 c1 p1 r1 i1 with e1 | ⟨e1, f1⟩
  · rw [e1]
    simp only [Option.bind_some]
    rw [if_pos trivial]
    exact order_j0 b1 b2 b3 (by omega) true (fun h => by cases h)
  rw [e1]
  simp only [Option.bind_some]
  rw [if_neg (by decide)]
  rcases cand_eq n2 b2 c2 p2 r2 i2 with e2 | ⟨e2, f2⟩
  · rw [e2]
    simp only [Option.bind_some]
    rw [if_pos trivial]
    exact order_j0 b1 b2 b3 (by omega) true (fun h => by cases h)
  rw [e2]
  simp only [Option.bind_some]
  rw [if_neg (by decide)]
  rcases cand_eq n3 b3 c3 p3 r3 i3 with e3 | ⟨e3, f3⟩
  · rw [e3]
    simp only [Option.bind_some]
    rw [if_pos trivial]
    exact order_j0 b1 b2 b3 (by omega) true (fun h => by cases h)
  rw [e3]
  simp only [Option.bind_some]
  rw [if_neg (by decide)]
  by_cases h12 : n1 = n2
  · rw [if_pos h12]; exact order_j0 b1 b2 b3 (by omega) true (fun h => by cases h)
  rw [if_neg h12]
  by_cases h23 : n2 = n3
  · rw [if_pos h23]; exact order_j0 b1 b2 b3 (by omega) true (fun h => by cases h)
  rw [if_neg h23]
  exact order_j0 b1 b2 b3 (by omega) _ (fun _ => ⟨f1, f2, f3, h12⟩)
end Go.Proofs.Ytpbogldeojnaeaa.Pure
