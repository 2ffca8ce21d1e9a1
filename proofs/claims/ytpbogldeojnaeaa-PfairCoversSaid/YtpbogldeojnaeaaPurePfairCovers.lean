/- The law PfairCovers, without Go. -/
import Derived.Test.YtpbogldeojnaeaaP6
import Derived.Test.YtpbogldeojnaeaaAwake
set_option linter.unusedVariables false
namespace Go.Proofs.Ytpbogldeojnaeaa.Pure
open Go.RowKit Go.Proofs.Ytpbogldeojnaeaa.P Go.Proofs.YtpbogldeojnaeaaW.PrintWords Num Evs
theorem covers_l0 (b : ByteArray) {c p : Int} (hv : val c p = true) : ∀ (n k : Nat) (i : Int), 1 ≤ i → i ≤ c + 1 → (c + 1 - i).toNat = n → 3 * n + 10 ≤ k →
    ontimelaw45_PfairCovers.l0 k (rel c p i) i b c p = some true := by
  obtain ⟨h1, h2, h3⟩ := val_true hv
  intro n
  induction n with
  | zero =>
    intro k i i1 i2 hn hk
    obtain ⟨k, rfl⟩ : ∃ m, k = m + 1 := ⟨k - 1, by omega⟩
    obtain rfl : i = c + 1 := by omega
    simp only [ontimelaw45_PfairCovers.l0]
    rw [if_neg (by omega), rel_succ, Int.mul_ediv_cancel_left p (by omega), beq_self_eq_true]
  | succ n ih =>
    intro k i i1 i2 hn hk
    obtain ⟨k, rfl⟩ : ∃ m, k = m + 3 := ⟨k - 3, by omega⟩
    have hrd := rel_lt_dl h1 h2 i
    have r0 := rel_nonneg h1 h2 i1
    have r2 := rel_le h1 h2 (show i ≤ c by omega)
    have d2 := dl_le_p h1 h2 (show i ≤ c by omega)
    have hde := dl_eq h1 h2 i
    have hnext : ontimelaw45_PfairCovers.l0 k (rel c p (i + 1)) (i + 1) b c p = some true := ih k (i + 1) (by omega) (by omega) (by omega) (by omega)
    have j3 : ontimelaw45_PfairCovers.j3 (k + 1) i false b c p i (rel c p i) (dl c p i) = some true := by
      simp only [ontimelaw45_PfairCovers.j3]
      rw [if_neg (by simp), overlaps_eq (by omega), ovl_ok hv i1 (by omega)]
      simp only [Option.bind_some]
      rw [rel_succ] at hnext
      by_cases ho : ov c p i = true
      · rw [if_pos ho] at hde ⊢
        rw [wrap_of (x := dl c p i - 1) (by omega) (by omega), wrap_of (x := i + 1) (by omega) (by omega), show dl c p i - 1 = i * p / c by omega]
        exact hnext
      · rw [if_neg ho] at hde ⊢
        rw [wrap_of (x := i + 1) (by omega) (by omega), show dl c p i = i * p / c by omega]
        exact hnext
    have j2 : ontimelaw45_PfairCovers.j2 (k + 2) i false b c p i (rel c p i) (dl c p i) = some true := by
      simp only [ontimelaw45_PfairCovers.j2]
      rw [if_neg (by simp), heavy_eq (by omega)]
      simp only [Option.bind_some]
      by_cases hh : hvy c p = true
      · obtain ⟨_, g2, g3, _⟩ := hvy_true hh
        have l1 := len_lo h1 g2 g3 i
        have l2 := len_hi h1 g2 g3 i
        rw [if_pos hh, wrap_of (x := dl c p i - rel c p i) (by omega) (by omega)]
        by_cases hl : dl c p i - rel c p i = 2
        · rw [if_pos hl]; exact j3
        · rw [if_neg hl, show dl c p i - rel c p i = 3 by omega]; exact j3
      · rw [if_neg hh]; exact j3
    simp only [ontimelaw45_PfairCovers.l0]
    rw [if_pos (by omega), window_eq (by omega), win_ok hv i1 (by omega)]
    simp only [Option.bind_some]
    rw [if_pos trivial, if_pos trivial, if_neg (by omega)]
    by_cases hi : i = 1
    · subst hi
      rw [if_pos rfl, if_pos (rel_one h1 h2), if_neg (by omega)]
      exact j2
    · rw [if_neg hi, if_pos (by omega), bne_self_eq_false]
      exact j2
theorem covers_j0 {k : Nat} (hk : 3100 ≤ k) (b : ByteArray) {c p : Int} (flag : Bool) (h : flag = false → val c p = true) : ontimelaw45_PfairCovers.j0 k flag b c p = some true := by
  obtain ⟨k, rfl⟩ : ∃ m, k = m + 1 := ⟨k - 1, by omega⟩
  simp only [ontimelaw45_PfairCovers.j0]
  cases flag with
  | true => rw [if_pos rfl]
  | false =>
    have hv := h rfl
    obtain ⟨h1, h2, h3⟩ := val_true hv
    rw [if_neg (by simp)]
    have := covers_l0 b hv _ k 1 (by omega) (by omega) rfl (by omega)
    rwa [rel_one h1 h2] at this
theorem PfairCovers (b : ByteArray) (c p : Int) (hb : b.size ≤ maxLen) (hc : (Lit.int .i64 c).wf = true) (hp : (Lit.int .i64 p).wf = true) :
    ∃ k, ontimelaw45_PfairCovers.f k b c p = some true := by
  refine ⟨4000, ?_⟩
  unfold ontimelaw45_PfairCovers.f
  rw [awake_eq (by omega)]
  simp only [Option.bind_some]
  rw [if_pos trivial]
  by_cases k1 : p > 200
  · rw [if_pos k1]; exact covers_j0 (by omega) b true (fun h => by cases h)
  rw [if_neg k1]
  by_cases k2 : c < 1
  · rw [if_pos k2]; exact covers_j0 (by omega) b true (fun h => by cases h)
  rw [if_neg k2]
  refine covers_j0 (by omega) b _ (fun h => ?_)
  have := of_decide_eq_false h
  exact decide_eq_true (by omega)
end Go.Proofs.Ytpbogldeojnaeaa.Pure
