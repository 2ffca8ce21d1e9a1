/- The law PfairGroups, without Go. -/
import Derived.Test.YtpbogldeojnaeaaP8
import Derived.Test.YtpbogldeojnaeaaAwake
set_option linter.unusedVariables false
namespace Go.Proofs.Ytpbogldeojnaeaa.Pure
open Go.RowKit Go.Proofs.Ytpbogldeojnaeaa.P Go.Proofs.YtpbogldeojnaeaaW.PrintWords Num Evs
/-- The loop's end. -/
theorem groups_end {k : Nat} (hk : 3000 ≤ k) (b : ByteArray) {c p x : Int} (hv : val c p = true) : ontimelaw45_PfairGroups.l0 (k + 1) x (c + 1) b c p = some true := by
  obtain ⟨h1, h2, h3⟩ := val_true hv
  simp only [ontimelaw45_PfairGroups.l0]
  rw [if_neg (by omega), heavy_eq (by omega)]
  simp only [Option.bind_some]
  by_cases hlt : c < p
  · rw [if_pos hlt, wrap_of (by omega) (by omega)]
    have : hvy c p = decide (2 * c ≥ p) := by
      unfold hvy
      rw [hv, Bool.true_and]
      exact decide_eq_decide.2 ⟨fun h => h.2, fun h => ⟨hlt, h⟩⟩
    rw [this, beq_self_eq_true]
  · rw [if_neg hlt]
    have : hvy c p = false := by
      unfold hvy
      rw [hv, Bool.true_and]
      exact decide_eq_false (by omega)
    rw [this]
    rfl
theorem groups_heavy (b : ByteArray) {c p : Int} (hh : hvy c p = true) : ∀ (n k : Nat) (i x : Int), 1 ≤ i → i ≤ c + 1 → (c + 1 - i).toNat = n → n + 3100 ≤ k → (i ≤ c → ∀ g, IsGrp c p i g → x ≤ g) →
    ontimelaw45_PfairGroups.l0 k x i b c p = some true := by
  obtain ⟨h1, h2, h3, h4, hv⟩ := hvy_true hh
  intro n
  induction n with
  | zero =>
    intro k i x i1 i2 hn hk hx
    obtain ⟨k, rfl⟩ : ∃ m, k = m + 1 := ⟨k - 1, by omega⟩
    obtain rfl : i = c + 1 := by omega
    exact groups_end (by omega) b hv
  | succ n ih =>
    intro k i x i1 i2 hn hk hx
    obtain ⟨k, rfl⟩ : ∃ m, k = m + 1 := ⟨k - 1, by omega⟩
    have i3 : i ≤ c := by omega
    obtain ⟨g, hg, his⟩ := group_heavy (show 3000 ≤ k by omega) b hh i1 i3
    have g1 := hx i3 g his
    have g2 := his.ge_dl
    have g3 := his.le_p h1 h2 h3 i1
    have hnext : ontimelaw45_PfairGroups.l0 k g (i + 1) b c p = some true :=
      ih k (i + 1) g (by omega) (by omega) (by omega) (by omega) (fun _ g' hg' => his.step h1 h2 h3 i1 hg')
    simp only [ontimelaw45_PfairGroups.l0]
    rw [if_pos i3, hg]
    simp only [Option.bind_some]
    rw [window_eq (by omega), win_ok hv i1 i3]
    simp only [Option.bind_some]
    rw [if_pos trivial, heavy_eq (by omega), hh]
    simp only [Option.bind_some]
    rw [if_pos trivial, if_neg (by omega), if_neg (by omega), if_neg (by omega), wrap_of (x := i + 1) (by omega) (by omega)]
    by_cases hi : i = c
    · subst hi
      have := his.last h1 (show i ≤ p by omega)
      rw [if_pos rfl, if_pos this]
      exact hnext
    · rw [if_neg hi]
      exact hnext
theorem groups_light (b : ByteArray) {c p : Int} (hv : val c p = true) (hh : hvy c p = false) : ∀ (n k : Nat) (i x : Int), 1 ≤ i → i ≤ c + 1 → (c + 1 - i).toNat = n → n + 3100 ≤ k →
    ontimelaw45_PfairGroups.l0 k x i b c p = some true := by
  obtain ⟨h1, h2, h3⟩ := val_true hv
  intro n
  induction n with
  | zero =>
    intro k i x i1 i2 hn hk
    obtain ⟨k, rfl⟩ : ∃ m, k = m + 1 := ⟨k - 1, by omega⟩
    obtain rfl : i = c + 1 := by omega
    exact groups_end (by omega) b hv
  | succ n ih =>
    intro k i x i1 i2 hn hk
    obtain ⟨k, rfl⟩ : ∃ m, k = m + 1 := ⟨k - 1, by omega⟩
    have i3 : i ≤ c := by omega
    simp only [ontimelaw45_PfairGroups.l0]
    rw [if_pos i3, group_light (by omega) b hh]
    simp only [Option.bind_some]
    rw [window_eq (by omega), win_ok hv i1 i3]
    simp only [Option.bind_some]
    rw [if_pos trivial, heavy_eq (by omega), hh]
    simp only [Option.bind_some]
    rw [if_neg (by simp), if_pos trivial, wrap_of (x := i + 1) (by omega) (by omega)]
    exact ih k (i + 1) x (by omega) (by omega) (by omega) (by omega)
theorem groups_j0 {k : Nat} (hk : 4200 ≤ k) (b : ByteArray) {c p : Int} (flag : Bool) (h : flag = false → val c p = true) : ontimelaw45_PfairGroups.j0 k flag b c p = some true := by
  obtain ⟨k, rfl⟩ : ∃ m, k = m + 1 := ⟨k - 1, by omega⟩
  simp only [ontimelaw45_PfairGroups.j0]
  cases flag with
  | true => rw [if_pos rfl]
  | false =>
    have hv := h rfl
    obtain ⟨h1, h2, h3⟩ := val_true hv
    rw [if_neg (by simp)]
    by_cases hh : hvy c p = true
    · obtain ⟨_, e2, e3, _, _⟩ := hvy_true hh
      refine groups_heavy b hh _ k 1 0 (by omega) (by omega) rfl (by omega) (fun _ g hg => ?_)
      have := hg.ge_dl
      have := dl_pos h1 h2 (show (1 : Int) ≤ 1 by omega)
      omega
    · exact groups_light b hv (by simpa using hh) _ k 1 0 (by omega) (by omega) rfl (by omega)
theorem PfairGroups (b : ByteArray) (c p : Int) (hb : b.size ≤ maxLen) (hc : (Lit.int .i64 c).wf = true) (hp : (Lit.int .i64 p).wf = true) :
    ∃ k, ontimelaw45_PfairGroups.f k b c p = some true := by
  refine ⟨5000, ?_⟩
  unfold ontimelaw45_PfairGroups.f
  rw [awake_eq (by omega)]
  simp only [Option.bind_some]
  rw [if_pos trivial]
  by_cases k1 : p > 100
  · rw [if_pos k1]; exact groups_j0 (by omega) b true (fun h => by cases h)
  rw [if_neg k1]
  by_cases k2 : c < 1
  · rw [if_pos k2]; exact groups_j0 (by omega) b true (fun h => by cases h)
  rw [if_neg k2]
  refine groups_j0 (by omega) b _ (fun h => ?_)
  have := of_decide_eq_false h
  exact decide_eq_true (by omega)
end Go.Proofs.Ytpbogldeojnaeaa.Pure
