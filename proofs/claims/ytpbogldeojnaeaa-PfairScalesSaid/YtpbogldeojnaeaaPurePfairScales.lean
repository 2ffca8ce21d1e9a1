/- The law PfairScales, without Go. -/
import Derived.Test.YtpbogldeojnaeaaP7
import Derived.Test.YtpbogldeojnaeaaAwake
set_option linter.unusedVariables false
namespace Go.Proofs.Ytpbogldeojnaeaa.Pure
open Go.RowKit Go.Proofs.Ytpbogldeojnaeaa.P Go.Proofs.YtpbogldeojnaeaaW.PrintWords Num Evs
theorem scales_val {q c p : Int} (q1 : 1 ≤ q) (q2 : q ≤ 5) (hv : val c p = true) (hp : p ≤ 40) : val (q * c) (q * p) = true ∧ hvy (q * c) (q * p) = hvy c p ∧ 0 ≤ q * c ∧ q * c ≤ 200 ∧ 0 ≤ q * p ∧ q * p ≤ 200 ∧ c ≤ q * c := by
  obtain ⟨h1, h2, h3⟩ := val_true hv
  have hq : q = 1 ∨ q = 2 ∨ q = 3 ∨ q = 4 ∨ q = 5 := by omega
  have key : 1 ≤ q * c ∧ q * c ≤ q * p ∧ q * p ≤ 1000 ∧ (q * c < q * p ∧ q * p ≤ 2 * (q * c) ↔ c < p ∧ p ≤ 2 * c) ∧ q * c ≤ 200 ∧ q * p ≤ 200 ∧ c ≤ q * c := by
    rcases hq with rfl | rfl | rfl | rfl | rfl <;> (refine ⟨?_, ?_, ?_, ⟨fun h => ?_, fun h => ?_⟩, ?_, ?_, ?_⟩ <;> omega)
  obtain ⟨k1, k2, k3, k4, k5, k6, k7⟩ := key
  have hv' : val (q * c) (q * p) = true := decide_eq_true ⟨k1, k2, k3⟩
  refine ⟨hv', ?_, by omega, k5, by omega, k6, k7⟩
  unfold hvy
  rw [hv, hv', Bool.true_and, Bool.true_and]
  exact decide_eq_decide.2 k4
theorem scales_j1 {k : Nat} (hk : 1 ≤ k) (x : Bool) : ontimelaw45_PfairScales.j1 k x = some x := by
  obtain ⟨k, rfl⟩ : ∃ m, k = m + 1 := ⟨k - 1, by omega⟩
  rfl
theorem scales_j0 {k : Nat} (hk : 3100 ≤ k) (b : ByteArray) {c p i y : Int} (y0 : 0 ≤ y) (y1 : y ≤ 255) (flag : Bool) (h : flag = false → val c p = true ∧ p ≤ 40 ∧ 1 ≤ i ∧ i ≤ c) :
    ontimelaw45_PfairScales.j0 k i y flag b c p = some true := by
  obtain ⟨k, rfl⟩ : ∃ m, k = m + 1 := ⟨k - 1, by omega⟩
  simp only [ontimelaw45_PfairScales.j0]
  cases flag with
  | true => rw [if_pos rfl]
  | false =>
    obtain ⟨hv, hp, i1, i2⟩ := h rfl
    obtain ⟨h1, h2, h3⟩ := val_true hv
    rw [if_neg (by simp), wrap_of (x := y) (by omega) (by omega), Int.tmod_eq_emod_of_nonneg y0, wrap_of (x := 1 + y % 5) (by omega) (by omega)]
    have q1 : 1 ≤ 1 + y % 5 := by omega
    have q2 : 1 + y % 5 ≤ 5 := by omega
    generalize 1 + y % 5 = q at q1 q2 ⊢
    obtain ⟨hv', hh', c0, c1, p0, p1, cc⟩ := scales_val q1 q2 hv hp
    have hq : 0 < q := by omega
    rw [wrap_of (x := q * c) (by omega) (by omega), wrap_of (x := q * p) (by omega) (by omega), window_eq (by omega), win_ok hv i1 i2]
    simp only [Option.bind_some]
    rw [window_eq (by omega), win_ok hv' i1 (by omega), rel_scale hq, dl_scale h1 h2 hq]
    simp only [Option.bind_some]
    rw [if_pos trivial, if_pos trivial, beq_self_eq_true, beq_self_eq_true, beq_self_eq_true, if_pos (by rfl), overlaps_eq (by omega), ovl_ok hv i1 i2]
    simp only [Option.bind_some]
    rw [overlaps_eq (by omega), ovl_ok hv' i1 (by omega), ov_scale hq]
    simp only [Option.bind_some]
    rw [beq_self_eq_true, if_pos rfl]
    have hg : ∃ g, pfair_Group.f k b c p i = some g ∧ pfair_Group.f k ⟨#[]⟩ (q * c) (q * p) i = some g := by
      by_cases hh : hvy c p = true
      · obtain ⟨g, e, hg⟩ := group_heavy (show 3000 ≤ k by omega) b hh i1 i2
        obtain ⟨g', e', hg'⟩ := group_heavy (show 3000 ≤ k by omega) ⟨#[]⟩ (hh'.trans hh) i1 (show i ≤ q * c by omega)
        have := IsGrp.scale h1 h2 hq hg hg'
        exact ⟨g, e, by rw [this]; exact e'⟩
      · have hf : hvy c p = false := by simpa using hh
        exact ⟨0, group_light (by omega) b hf, group_light (by omega) ⟨#[]⟩ (hh'.trans hf)⟩
    obtain ⟨g, e, e'⟩ := hg
    rw [e]
    simp only [Option.bind_some]
    rw [e']
    simp only [Option.bind_some]
    rw [if_pos trivial, heavy_eq (by omega)]
    simp only [Option.bind_some]
    rw [heavy_eq (by omega), hh']
    simp only [Option.bind_some]
    rw [beq_self_eq_true]
    exact scales_j1 (by omega) true
theorem PfairScales (b : ByteArray) (c p i y : Int) (hb : b.size ≤ maxLen) (hc : (Lit.int .i64 c).wf = true) (hp : (Lit.int .i64 p).wf = true) (hi : (Lit.int .i64 i).wf = true) (hy : (Lit.int .u8 y).wf = true) :
    ∃ k, ontimelaw45_PfairScales.f k b c p i y = some true := by
  have hy' : 0 ≤ y ∧ y ≤ 255 := by
    simp only [Lit.wf, Bool.and_eq_true, decide_eq_true_eq] at hy
    exact hy
  obtain ⟨y0, y1⟩ := hy'
  refine ⟨5000, ?_⟩
  unfold ontimelaw45_PfairScales.f
  rw [awake_eq (by omega)]
  simp only [Option.bind_some]
  rw [if_pos trivial]
  by_cases k1 : p > 40
  · rw [if_pos k1]; exact scales_j0 (by omega) b y0 y1 true (fun h => by cases h)
  rw [if_neg k1]
  by_cases k2 : c < 1
  · rw [if_pos k2]; exact scales_j0 (by omega) b y0 y1 true (fun h => by cases h)
  rw [if_neg k2]
  by_cases k3 : c > p
  · rw [if_pos k3]; exact scales_j0 (by omega) b y0 y1 true (fun h => by cases h)
  rw [if_neg k3]
  by_cases k4 : i < 1
  · rw [if_pos k4]; exact scales_j0 (by omega) b y0 y1 true (fun h => by cases h)
  rw [if_neg k4]
  refine scales_j0 (by omega) b y0 y1 _ (fun h => ?_)
  have := of_decide_eq_false h
  exact ⟨decide_eq_true (by omega), by omega, by omega, by omega⟩
end Go.Proofs.Ytpbogldeojnaeaa.Pure
