/- What the reference's functions answer. -/
import Derived.Test.YtpbogldeojnaeaaP4
import Derived.Test.YtpbogldeojnaeaaAwake
set_option linter.unusedVariables false
namespace Go.Proofs.Ytpbogldeojnaeaa.Evs
open Go.RowKit Go.Proofs.Ytpbogldeojnaeaa.P Go.Proofs.YtpbogldeojnaeaaW.PrintWords Num
theorem ref_valid_eq' (c p : Int) : ontimeref45_Valid.f c p = some (val c p) := by
  unfold ontimeref45_Valid.f val
  by_cases h1 : c ≥ 1
  · rw [if_pos h1]
    by_cases h2 : c ≤ p
    · rw [if_pos h2]
      congr 1
      exact decide_eq_decide.2 ⟨fun h => ⟨h1, h2, h⟩, fun h => h.2.2⟩
    · rw [if_neg h2]
      congr 1; symm; exact decide_eq_false (by omega)
  · rw [if_neg h1]
    congr 1; symm; exact decide_eq_false (by omega)
/-- Rounds enough for n times. -/
def rounds1 (n : Nat) : Nat := (n + 1) * 1010
theorem rounds1_succ (n : Nat) : rounds1 (n + 1) = rounds1 n + 1010 := by unfold rounds1; omega
theorem rounds1_zero : rounds1 0 = 1010 := rfl
section
variable {c p : Int} (hv : val c p = true)
include hv
theorem ref_heavy_eq : ontimeref45_Heavy.f c p = some (hvy c p) := by
  obtain ⟨h1, h2, h3⟩ := val_true hv
  unfold ontimeref45_Heavy.f hvy
  rw [hv, Bool.true_and]
  by_cases hlt : c < p
  · rw [if_pos hlt, wrap_of (by omega) (by omega)]
    congr 1
    exact decide_eq_decide.2 ⟨fun h => ⟨hlt, h⟩, fun h => h.2⟩
  · rw [if_neg hlt]
    congr 1; symm; exact decide_eq_false (by omega)
theorem ref_window_eq {i : Int} (i1 : 1 ≤ i) (i2 : i ≤ c) : ontimeref45_Window.f c p i = some (rel c p i, dl c p i) := by
  obtain ⟨h1, h2, h3⟩ := val_true hv
  have hd := deadline_eq ⟨#[]⟩ h1 h2 h3 i1 i2
  unfold pfair_deadline.f at hd
  rw [if_neg (by omega)] at hd
  unfold ontimeref45_Window.f
  rw [if_neg (by omega), relw_eq h1 h2 h3 i1 i2]
  have := Option.some.inj hd
  rw [this]
theorem ref_overlaps_eq {i : Int} (i1 : 1 ≤ i) (i2 : i ≤ c) : ontimeref45_Overlaps.f c p i = some (ov c p i) := by
  obtain ⟨h1, h2, h3⟩ := val_true hv
  unfold ontimeref45_Overlaps.f
  rw [if_neg (by omega), ov_mod h1 h2 h3 i1 i2]
/-- The reference's inner loop: it stops at a hit, and goes on with the next time else. -/
theorem ref_l1_hit {t : Int} (t0 : 0 ≤ t) (t1 : t ≤ p) : ∀ (n k : Nat) (j : Int), 1 ≤ j → j ≤ c + 1 → (c + 1 - j).toNat = n → n + 2 ≤ k →
    (∃ m, j ≤ m ∧ m ≤ c ∧ ((t = dl c p m ∧ ov c p m = false) ∨ (t + 1 = dl c p m ∧ dl c p m - rel c p m = 3))) → ontimeref45_Group.l1 k c p t j = some t := by
  obtain ⟨h1, h2, h3⟩ := val_true hv
  intro n
  induction n with
  | zero =>
    rintro k j j1 j2 hn hk ⟨m, m1, m2, _⟩
    omega
  | succ n ih =>
    intro k j j1 j2 hn hk hm
    obtain ⟨k, rfl⟩ : ∃ m, k = m + 1 := ⟨k - 1, by omega⟩
    have r0 := rel_nonneg h1 h2 j1
    have r2 := rel_le h1 h2 (show j ≤ c by omega)
    have d1 := dl_pos h1 h2 j1
    have d2 := dl_le_p h1 h2 (show j ≤ c by omega)
    have hnext : ¬ ((t = dl c p j ∧ ov c p j = false) ∨ (t + 1 = dl c p j ∧ dl c p j - rel c p j = 3)) → ontimeref45_Group.l1 k c p t (j + 1) = some t := by
      intro hno
      refine ih k (j + 1) (by omega) (by omega) (by omega) (by omega) ?_
      obtain ⟨m, m1, m2, hm⟩ := hm
      have : m ≠ j := by rintro rfl; exact hno hm
      exact ⟨m, by omega, m2, hm⟩
    simp only [ontimeref45_Group.l1]
    rw [if_pos (by omega), ref_window_eq hv j1 (by omega)]
    simp only [Option.bind_some]
    rw [wrap_of (x := t + 1) (by omega) (by omega), wrap_of (x := j + 1) (by omega) (by omega), wrap_of (x := dl c p j - rel c p j) (by omega) (by omega)]
    by_cases e1 : t = dl c p j
    · rw [if_pos e1, ref_overlaps_eq hv j1 (by omega)]
      simp only [Option.bind_some]
      by_cases ho : ov c p j = true
      · rw [if_pos ho, if_neg (by omega)]
        refine hnext ?_
        rintro (⟨_, h⟩ | ⟨h, _⟩)
        · rw [ho] at h; cases h
        · omega
      · rw [if_neg ho]
    · rw [if_neg e1]
      by_cases e2 : t + 1 = dl c p j
      · rw [if_pos e2]
        by_cases e3 : dl c p j - rel c p j = 3
        · rw [if_pos e3]
        · rw [if_neg e3]
          exact hnext (by omega)
      · rw [if_neg e2]
        exact hnext (by omega)
theorem ref_l1_miss {t : Int} (t0 : 0 ≤ t) (t1 : t ≤ p) {r : Int} {K : Nat} (hr : ∀ k, K ≤ k → ontimeref45_Group.l0 k c p (t + 1) = some r) : ∀ (n k : Nat) (j : Int), 1 ≤ j → j ≤ c + 1 → (c + 1 - j).toNat = n → K + n + 2 ≤ k →
    (∀ m, j ≤ m → m ≤ c → ¬ ((t = dl c p m ∧ ov c p m = false) ∨ (t + 1 = dl c p m ∧ dl c p m - rel c p m = 3))) → ontimeref45_Group.l1 k c p t j = some r := by
  obtain ⟨h1, h2, h3⟩ := val_true hv
  intro n
  induction n with
  | zero =>
    intro k j j1 j2 hn hk hm
    obtain ⟨k, rfl⟩ : ∃ m, k = m + 1 := ⟨k - 1, by omega⟩
    simp only [ontimeref45_Group.l1]
    rw [if_neg (by omega), wrap_of (x := t + 1) (by omega) (by omega)]
    exact hr k (by omega)
  | succ n ih =>
    intro k j j1 j2 hn hk hm
    obtain ⟨k, rfl⟩ : ∃ m, k = m + 1 := ⟨k - 1, by omega⟩
    have r0 := rel_nonneg h1 h2 j1
    have r2 := rel_le h1 h2 (show j ≤ c by omega)
    have d1 := dl_pos h1 h2 j1
    have d2 := dl_le_p h1 h2 (show j ≤ c by omega)
    have hnext := ih k (j + 1) (by omega) (by omega) (by omega) (by omega) (fun m m1 m2 => hm m (by omega) m2)
    have hno := hm j (by omega) (by omega)
    simp only [ontimeref45_Group.l1]
    rw [if_pos (by omega), ref_window_eq hv j1 (by omega)]
    simp only [Option.bind_some]
    rw [wrap_of (x := t + 1) (by omega) (by omega), wrap_of (x := j + 1) (by omega) (by omega), wrap_of (x := dl c p j - rel c p j) (by omega) (by omega)]
    by_cases e1 : t = dl c p j
    · rw [if_pos e1, ref_overlaps_eq hv j1 (by omega)]
      simp only [Option.bind_some]
      by_cases ho : ov c p j = true
      · rw [if_pos ho, if_neg (by omega)]
        exact hnext
      · exact absurd (.inl ⟨e1, by simpa using ho⟩) hno
    · rw [if_neg e1]
      by_cases e2 : t + 1 = dl c p j
      · rw [if_pos e2]
        by_cases e3 : dl c p j - rel c p j = 3
        · exact absurd (.inr ⟨e2, e3⟩) hno
        · rw [if_neg e3]; exact hnext
      · rw [if_neg e2]; exact hnext
/-- The outer loop finds the first hit. -/
theorem ref_l0 {g : Int} (hg : Hit c p g) (g1 : g ≤ p) : ∀ (n k : Nat) (t : Int), 0 ≤ t → t ≤ g → (g - t).toNat = n → rounds1 n ≤ k → (∀ u, t ≤ u → u < g → ¬ Hit c p u) → ontimeref45_Group.l0 k c p t = some g := by
  obtain ⟨h1, h2, h3⟩ := val_true hv
  intro n
  induction n with
  | zero =>
    intro k t t0 tg hn hk hm
    rw [rounds1_zero] at hk
    obtain ⟨k, rfl⟩ : ∃ m, k = m + 1 := ⟨k - 1, by omega⟩
    obtain rfl : t = g := by omega
    simp only [ontimeref45_Group.l0]
    rw [if_pos g1]
    exact ref_l1_hit hv t0 g1 _ k 1 (by omega) (by omega) rfl (by omega) (by
      obtain ⟨m, m1, m2, h⟩ := hg
      exact ⟨m, m1, m2, h⟩)
  | succ n ih =>
    intro k t t0 tg hn hk hm
    rw [rounds1_succ] at hk
    obtain ⟨k, rfl⟩ : ∃ m, k = m + 1 := ⟨k - 1, by omega⟩
    simp only [ontimeref45_Group.l0]
    rw [if_pos (by omega)]
    refine ref_l1_miss hv t0 (by omega) (r := g) (K := rounds1 n) (fun k' hk' => ih k' (t + 1) (by omega) (by omega) (by omega) hk' (fun u u1 u2 => hm u (by omega) u2)) _ k 1 (by omega) (by omega) rfl (by omega) ?_
    intro m m1 m2 h
    exact hm t (by omega) (by omega) ⟨m, m1, m2, h⟩
end
theorem ref_group_heavy {k : Nat} (hk : 1013000 ≤ k) {c p i g : Int} (hh : hvy c p = true) (i1 : 1 ≤ i) (i2 : i ≤ c) (hg : IsGrp c p i g) : ontimeref45_Group.f k c p i = some g := by
  obtain ⟨h1, h2, h3, h4, hv⟩ := hvy_true hh
  unfold ontimeref45_Group.f
  rw [ref_heavy_eq hv, hh]
  simp only [Option.bind_some]
  rw [if_pos trivial, ref_window_eq hv i1 i2]
  simp only [Option.bind_some]
  have d1 := dl_pos h1 (show c ≤ p by omega) i1
  have g1 := hg.le_p h1 h2 h3 i1
  have g0 := hg.ge_dl
  refine ref_l0 hv (hg.hit h1 h2 h3 i1) g1 _ k _ (by omega) g0 rfl ?_ (fun u u1 u2 => hg.first h1 h2 h3 i1 u1 u2)
  have : (g - dl c p i).toNat + 1 ≤ 1001 := by omega
  unfold rounds1
  omega
theorem ref_group_light {k : Nat} {c p i : Int} (hv : val c p = true) (hh : hvy c p = false) : ontimeref45_Group.f k c p i = some 0 := by
  unfold ontimeref45_Group.f
  rw [ref_heavy_eq hv, hh]
  rfl
/-- Both texts' group deadlines. -/
theorem groups_agree {k : Nat} (hk : 1013000 ≤ k) (b : ByteArray) {c p i : Int} (hv : val c p = true) (i1 : 1 ≤ i) (i2 : i ≤ c) : ∃ g, pfair_Group.f k b c p i = some g ∧ ontimeref45_Group.f k c p i = some g ∧ 0 ≤ g ∧ g ≤ 1000 := by
  by_cases hh : hvy c p = true
  · obtain ⟨h1, h2, h3, h4, _⟩ := hvy_true hh
    obtain ⟨g, e, hg⟩ := group_heavy (show 3000 ≤ k by omega) b hh i1 i2
    have g1 := hg.le_p h1 h2 h3 i1
    have g0 := hg.ge_dl
    have d1 := dl_pos h1 (show c ≤ p by omega) i1
    exact ⟨g, e, ref_group_heavy hk hh i1 i2 hg, by omega, by omega⟩
  · have hf : hvy c p = false := by simpa using hh
    exact ⟨0, group_light (by omega) b hf, ref_group_light hv hf, by omega, by omega⟩
end Go.Proofs.Ytpbogldeojnaeaa.Evs
