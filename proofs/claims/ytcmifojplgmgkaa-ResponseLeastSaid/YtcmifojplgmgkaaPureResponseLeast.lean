/- The law ResponseLeast, without Go. -/
import Derived.Test.YtcmifojplgmgkaaP17
import Derived.Test.YtcmifojplgmgkaaRLaws
set_option linter.unusedVariables false
namespace Go.Proofs.Ytcmifojplgmgkaa.Pure
open Go.RowKit Go.Proofs.Ytcmifojplgmgkaa.P Go.Proofs.YtcmifojplgmgkaaW.PrintWords Evs
theorem least_true {k : Nat} (hk : 1 ≤ k) (l : List S49) (a1 : Int) : ontimelaw44_ResponseLeast.j0 k l a1 true = some true := by
  obtain ⟨k, rfl⟩ : ∃ m, k = m + 1 := ⟨k - 1, by omega⟩
  simp only [ontimelaw44_ResponseLeast.j0]
  rw [if_pos trivial]
theorem least_l0 {l : List S49} {i : Int} (hkn : known l i = true) {r : Int × Int} (hr : IsResp l i r) : ∀ (n k : Nat) (x : Int), 1 ≤ x → ((rd_T49 l i).f2 + 1 - x).toNat ≤ n → x ≤ 1001 → n + 60 ≤ k → (∀ w, 0 ≤ w → w < x → nextV l i w ≠ w) →
    ontimelaw44_ResponseLeast.l0 k l i r.1 r.2 (ownV l i) x = some true := by
  obtain ⟨hv, i0, i1⟩ := known_of_eq hkn
  obtain ⟨_, _, t3, t4, t5, t6⟩ := task_bd hkn
  have ho := ownV_bd hkn
  have h20 := (vld_of hv).1
  have late : ∀ (x : Int), (rd_T49 l i).f2 < x → (∀ w, 0 ≤ w → w < x → nextV l i w ≠ w) → r = (0, 21) := by
    intro x hx hno
    rcases hr with ⟨h1, h2, h3, h4, h5⟩ | ⟨rfl, h1⟩
    · exact absurd h4 (hno r.1 (by omega) (by omega))
    · rfl
  intro n
  induction n with
  | zero =>
    intro k x x1 hn x2 hk hno
    obtain ⟨k, rfl⟩ : ∃ m, k = m + 1 := ⟨k - 1, by omega⟩
    have := late x (by omega) hno
    subst this
    simp only [ontimelaw44_ResponseLeast.l0]
    rw [if_pos i0, if_pos i1, if_neg (by omega), if_pos trivial]
    rfl
  | succ n ih =>
    intro k x x1 hn x2 hk hno
    obtain ⟨k, rfl⟩ : ∃ m, k = m + 1 := ⟨k - 1, by omega⟩
    by_cases hx : x ≤ (rd_T49 l i).f2
    · have hib := interf_bd (Pos.of_vld hv) h20 i (show 0 ≤ x by omega) (show x ≤ 100000 by omega)
      have hin := interf_nonneg (Pos.of_vld hv) i (show 0 ≤ x by omega)
      have e : ownV l i + interf l i x = nextV l i x := rfl
      simp only [ontimelaw44_ResponseLeast.l0]
      rw [if_pos i0, if_pos i1, if_pos hx, interf_eq (by omega) hkn (by omega) (by omega)]
      simp only [Option.bind_some]
      rw [wrap64_of (x := ownV l i + interf l i x) (by omega) (by omega), e]
      by_cases hf : nextV l i x = x
      · rw [if_pos hf]
        rcases hr with ⟨h1, h2, h3, h4, h5⟩ | ⟨rfl, h1⟩
        · have a := h5 x (by omega) hf
          have b : ¬ r.1 < x := fun hh => hno r.1 (by omega) hh h4
          rw [if_pos h1, show r.1 = x by omega, beq_self_eq_true]
        · have := h1 x (by omega) hf
          omega
      · rw [if_neg hf, wrap64_of (x := x + 1) (by omega) (by omega)]
        refine ih k (x + 1) (by omega) (by omega) (by omega) (by omega) (fun w hw hlt => ?_)
        by_cases e2 : w = x
        · rw [e2]; exact hf
        · exact hno w hw (by omega)
    · have := late x (by omega) hno
      subst this
      simp only [ontimelaw44_ResponseLeast.l0]
      rw [if_pos i0, if_pos i1, if_neg hx, if_pos trivial]
      rfl
theorem least_false {k : Nat} (hk : 2000 ≤ k) {l : List S49} {i : Int} (hkn : known l i = true) : ontimelaw44_ResponseLeast.j0 k l i false = some true := by
  obtain ⟨k, rfl⟩ : ∃ m, k = m + 1 := ⟨k - 1, by omega⟩
  obtain ⟨hv, i0, i1⟩ := known_of_eq hkn
  obtain ⟨_, _, t3, t4, t5, t6⟩ := task_bd hkn
  have ho := ownV_bd hkn
  obtain ⟨r, e, hr⟩ := resp_yes hkn (show 1100 ≤ k by omega)
  simp only [ontimelaw44_ResponseLeast.j0]
  rw [if_neg (by simp), e]
  simp only [Option.bind_some]
  rw [if_pos i0, if_pos i1, block_eq (by omega) hkn]
  simp only [Option.bind_some]
  have e2 : (rd_T49 l i).f0 + blockV l i = ownV l i := rfl
  rw [e2, wrap64_of (by omega) (by omega)]
  refine least_l0 hkn hr 1000 k 1 (by omega) (by omega) (by omega) (by omega) (fun w hw hlt => ?_)
  obtain rfl : w = 0 := by omega
  have := nextV_ge hkn (Int.le_refl 0)
  omega
theorem ResponseLeast {P Q R : Prop} (l : List S49) (a1 : Int) (_ : P) (_ : Q) (_ : R) (w1 : (Lit.int .i64 a1).wf = true) : ∃ k, ontimelaw44_ResponseLeast.f k l a1 = some true := by
  refine ⟨3000, ?_⟩
  unfold ontimelaw44_ResponseLeast.f
  rw [awake_eq (by omega)]
  simp only [Option.bind_some]
  rw [if_pos trivial, great_eq (by omega)]
  simp only [Option.bind_some]
  by_cases hg : grt l = true
  · rw [if_pos hg]
    exact least_true (by omega) l a1
  · rw [if_neg hg, cvalid_eq (by omega)]
    simp only [Option.bind_some]
    by_cases hv : vld l = true
    · rw [if_pos hv]
      by_cases h0 : a1 < 0
      · rw [if_pos h0]
        exact least_true (by omega) l a1
      · rw [if_neg h0]
        by_cases h1 : a1 ≥ (l.length : Int)
        · rw [decide_eq_true h1]
          exact least_true (by omega) l a1
        · rw [decide_eq_false h1]
          exact least_false (by omega) (known_iff hv (by omega) (by omega))
    · rw [if_neg hv]
      exact least_true (by omega) l a1
end Go.Proofs.Ytcmifojplgmgkaa.Pure
