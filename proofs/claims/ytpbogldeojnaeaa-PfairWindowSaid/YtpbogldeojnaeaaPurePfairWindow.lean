/- The law PfairWindow, without Go. -/
import Derived.Test.YtpbogldeojnaeaaRefEvs
set_option linter.unusedVariables false
namespace Go.Proofs.Ytpbogldeojnaeaa.Pure
open Go.RowKit Go.Proofs.Ytpbogldeojnaeaa.P Go.Proofs.YtpbogldeojnaeaaW.PrintWords Num Evs
theorem window_j2 {k : Nat} (hk : 3001 ≤ k) (b : ByteArray) {c p i e : Int} (ho : ovl c p i = false) (hg : ∀ k, 3000 ≤ k → pfair_Group.f k b c p i = some 0) : ontimelaw45_PfairWindow.j2 k i e e b c p 0 0 0 = some true := by
  obtain ⟨k, rfl⟩ : ∃ m, k = m + 1 := ⟨k - 1, by omega⟩
  simp only [ontimelaw45_PfairWindow.j2]
  rw [if_pos trivial, if_pos (by rfl), overlaps_eq (by omega), ho]
  simp only [Option.bind_some]
  rw [if_neg (by simp), hg k (by omega)]
  rfl
theorem window_j1 {k : Nat} (hk : 1013001 ≤ k) (b : ByteArray) {c p i : Int} {v flag : Bool} (hvv : v = val c p) (hf : flag = false ↔ (val c p = true ∧ 1 ≤ i ∧ i ≤ c)) :
    ontimelaw45_PfairWindow.j1 k i (win c p i).2.2.2 v flag b c p (win c p i).1 (win c p i).2.1 (win c p i).2.2.1 = some true := by
  obtain ⟨k, rfl⟩ : ∃ m, k = m + 1 := ⟨k - 1, by omega⟩
  subst hvv
  simp only [ontimelaw45_PfairWindow.j1]
  cases flag with
  | true =>
    rw [if_pos rfl]
    have hno : ¬ (val c p = true ∧ 1 ≤ i ∧ i ≤ c) := fun h => by have := hf.2 h; cases this
    by_cases hv : val c p = true
    · have hi : ¬ (1 ≤ i ∧ i ≤ c) := fun h => hno ⟨hv, h.1, h.2⟩
      rw [if_pos hv, win_no hv hi]
      exact window_j2 (by omega) b (ovl_no hi) (fun k hk => group_no hk b hi)
    · have hv' : val c p = false := by simpa using hv
      rw [if_neg hv, win_bad hv']
      exact window_j2 (by omega) b (ovl_bad hv') (fun k hk => group_light hk b (by unfold hvy; rw [hv', Bool.false_and]))
  | false =>
    obtain ⟨hv, i1, i2⟩ := hf.1 rfl
    rw [if_neg (by simp), ref_window_eq hv i1 i2, win_ok hv i1 i2]
    simp only [Option.bind_some]
    rw [if_pos trivial, beq_self_eq_true, beq_self_eq_true, beq_self_eq_true, if_neg (by simp), overlaps_eq (by omega), ovl_ok hv i1 i2]
    simp only [Option.bind_some]
    rw [ref_overlaps_eq hv i1 i2]
    simp only [Option.bind_some]
    rw [bne_self_eq_false, if_neg (by simp)]
    by_cases hp : p > 120
    · rw [if_pos hp]
    · rw [if_neg hp]
      obtain ⟨g, e1, e2, _⟩ := groups_agree (show 1013000 ≤ k by omega) b hv i1 i2
      rw [e1]
      simp only [Option.bind_some]
      rw [e2]
      simp only [Option.bind_some]
      rw [beq_self_eq_true]
theorem window_j0 {k : Nat} (hk : 1013002 ≤ k) (b : ByteArray) (c p i : Int) : ontimelaw45_PfairWindow.j0 k i (win c p i).2.2.2 (val c p) false b c p (win c p i).1 (win c p i).2.1 (win c p i).2.2.1 = some true := by
  obtain ⟨k, rfl⟩ : ∃ m, k = m + 1 := ⟨k - 1, by omega⟩
  simp only [ontimelaw45_PfairWindow.j0]
  rw [if_neg (by simp)]
  by_cases hv : val c p = true
  · rw [if_pos hv]
    by_cases hi : i < 1
    · rw [if_pos hi]
      exact window_j1 (by omega) b rfl (by constructor <;> intro h; cases h; omega)
    · rw [if_neg hi]
      refine window_j1 (by omega) b rfl ⟨fun h => ?_, fun h => decide_eq_false (by omega)⟩
      have := of_decide_eq_false h
      exact ⟨hv, by omega, by omega⟩
  · rw [if_neg hv]
    exact window_j1 (by omega) b rfl ⟨fun h => by (cases h), fun h => absurd h.1 hv⟩
theorem PfairWindow (b : ByteArray) (c p i : Int) (hb : b.size ≤ maxLen) (hc : (Lit.int .i64 c).wf = true) (hp : (Lit.int .i64 p).wf = true) (hi : (Lit.int .i64 i).wf = true) :
    ∃ k, ontimelaw45_PfairWindow.f k b c p i = some true := by
  obtain ⟨k, hk⟩ : ∃ k : Nat, 1013002 ≤ k := ⟨1013002, Nat.le_refl _⟩
  refine ⟨k, ?_⟩
  unfold ontimelaw45_PfairWindow.f
  rw [awake_eq (by omega)]
  simp only [Option.bind_some]
  rw [if_pos trivial, window_eq (by omega), ref_valid_eq', heavy_eq (by omega)]
  simp only [Option.bind_some]
  by_cases hv : val c p = true
  · rw [if_pos hv, ref_heavy_eq hv]
    simp only [Option.bind_some]
    rw [bne_self_eq_false]
    exact window_j0 hk b c p i
  · rw [if_neg hv]
    have hv' : val c p = false := by simpa using hv
    rw [show hvy c p = false by unfold hvy; rw [hv', Bool.false_and], bne_self_eq_false]
    exact window_j0 hk b c p i
end Go.Proofs.Ytpbogldeojnaeaa.Pure
