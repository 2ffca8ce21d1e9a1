/- The law PfairLag, without Go. -/
import Derived.Test.YtpbogldeojnaeaaP9
import Derived.Test.YtpbogldeojnaeaaAwake
set_option linter.unusedVariables false
namespace Go.Proofs.Ytpbogldeojnaeaa.Pure
open Go.RowKit Go.Proofs.Ytpbogldeojnaeaa.P Go.Proofs.YtpbogldeojnaeaaW.PrintWords Num Evs
theorem lag_eq {k : Nat} (hk : 2 ≤ k) (b : ByteArray) (c p x y : Int) : pfair_Lag.f k b c p x y = some (if val c p = true then (wrap64 (wrap64 (c * x) - wrap64 (y * p)), p) else (0, 1)) := by
  unfold pfair_Lag.f
  rw [valid_eq hk]
  simp only [Option.bind_some]
  by_cases hv : val c p = true
  · rw [if_pos hv, if_pos hv]
  · rw [if_neg hv, if_neg hv]
theorem ref_valid_eq (c p : Int) : ontimeref45_Valid.f c p = some (val c p) := by
  unfold ontimeref45_Valid.f val
  by_cases h1 : c ≥ 1
  · rw [if_pos h1]
    by_cases h2 : c ≤ p
    · rw [if_pos h2]
      congr 1
      exact decide_eq_decide.2 ⟨fun h => ⟨h1, h2, h⟩, fun h => h.2.2⟩
    · rw [if_neg h2]
      congr 1; symm; exact decide_eq_false (by omega)
  · rw [if_neg h1]
    congr 1; symm; exact decide_eq_false (by omega)
theorem lag_j2 {k : Nat} (hk : 3000 ≤ k) (b : ByteArray) {c p x y N : Int} (hv : val c p = true) (hx : 0 ≤ x) (flag : Bool) (h : flag = false → 1 ≤ y ∧ y ≤ c - 1 ∧ x ≤ p) (hN : N = wrap64 (wrap64 (c * x) - wrap64 (y * p))) :
    ontimelaw45_PfairLag.j2 k x y N p flag b c p = some true := by
  obtain ⟨k, rfl⟩ : ∃ m, k = m + 1 := ⟨k - 1, by omega⟩
  obtain ⟨h1, h2, h3⟩ := val_true hv
  simp only [ontimelaw45_PfairLag.j2]
  cases flag with
  | true => rw [if_pos rfl]
  | false =>
    obtain ⟨y1, y2, xp⟩ := h rfl
    have b1 := mul_bd hx (show x ≤ 1000 by omega) (show 0 ≤ c by omega) (show c ≤ 1000 by omega)
    have b2 := mul_bd (show 0 ≤ y by omega) (show y ≤ 1000 by omega) (show 0 ≤ p by omega) h3
    rw [Int.mul_comm x c] at b1
    rw [wrap_of (x := c * x) (by omega) (by omega), wrap_of (x := y * p) (by omega) (by omega), wrap_of (by omega) (by omega)] at hN
    rw [if_neg (by simp), window_eq (by omega), win_ok hv y1 (by omega)]
    simp only [Option.bind_some]
    rw [wrap_of (x := y + 1) (by omega) (by omega), window_eq (by omega), win_ok hv (by omega) (by omega)]
    simp only [Option.bind_some]
    rw [if_pos trivial, if_pos trivial, wrap_of (x := -p) (by omega) (by omega)]
    have hr := rel_lt_iff h1 h2 y x
    have hd := lt_dl_iff h1 h2 (y + 1) x
    rw [sub_one_mul', Int.mul_comm x c] at hr
    rw [Int.add_mul, Int.one_mul, Int.mul_comm x c] at hd
    have hd2 : decide (dl c p (y + 1) > x) = decide (N < p) := decide_eq_decide.2 (by constructor <;> intro hh <;> omega)
    by_cases hr1 : rel c p y < x
    · rw [if_pos hr1, if_pos (by omega), hd2]
      simp
    · rw [if_neg hr1, if_neg (by omega)]
      simp
theorem lag_j1 {k : Nat} (hk : 3001 ≤ k) (b : ByteArray) {c p x y N : Int} (hv : val c p = true) (hx : 0 ≤ x) (hN : N = wrap64 (wrap64 (c * x) - wrap64 (y * p))) :
    ontimelaw45_PfairLag.j1 k x y N p false b c p = some true := by
  obtain ⟨k, rfl⟩ : ∃ m, k = m + 1 := ⟨k - 1, by omega⟩
  obtain ⟨h1, h2, h3⟩ := val_true hv
  simp only [ontimelaw45_PfairLag.j1]
  rw [if_neg (by simp)]
  by_cases hy : y < 1
  · rw [if_pos hy]
    exact lag_j2 (by omega) b hv hx true (fun h => by cases h) hN
  rw [if_neg hy, wrap_of (x := c - 1) (by omega) (by omega)]
  by_cases hy2 : y > c - 1
  · rw [if_pos hy2]
    exact lag_j2 (by omega) b hv hx true (fun h => by cases h) hN
  rw [if_neg hy2]
  refine lag_j2 (by omega) b hv hx _ (fun h => ?_) hN
  have := of_decide_eq_false h
  omega
theorem lag_j0 {k : Nat} (hk : 3002 ≤ k) (b : ByteArray) {c p x y N : Int} (hv : val c p = true) (flag : Bool) (h : flag = false → 0 ≤ x) (hN : N = wrap64 (wrap64 (c * x) - wrap64 (y * p))) :
    ontimelaw45_PfairLag.j0 k x y N p flag b c p = some true := by
  obtain ⟨k, rfl⟩ : ∃ m, k = m + 1 := ⟨k - 1, by omega⟩
  simp only [ontimelaw45_PfairLag.j0]
  cases flag with
  | true => rw [if_pos rfl]
  | false =>
    rw [if_neg (by simp), if_pos hN, bne_self_eq_false]
    exact lag_j1 (by omega) b hv (h rfl) hN
theorem PfairLag (b : ByteArray) (c p a1 a2 : Int) (hb : b.size ≤ maxLen) (hc : (Lit.int .i64 c).wf = true) (hp : (Lit.int .i64 p).wf = true) (h1 : (Lit.int .i64 a1).wf = true) (h2 : (Lit.int .i64 a2).wf = true) :
    ∃ k, ontimelaw45_PfairLag.f k b c p a1 a2 = some true := by
  refine ⟨4000, ?_⟩
  unfold ontimelaw45_PfairLag.f
  rw [awake_eq (by omega)]
  simp only [Option.bind_some]
  rw [if_pos trivial, lag_eq (by omega), ref_valid_eq]
  simp only [Option.bind_some]
  by_cases hv : val c p = true
  · rw [if_pos hv, if_pos hv]
    dsimp only
    by_cases k1 : a1 < 0
    · rw [if_pos k1]; exact lag_j0 (by omega) b hv true (fun h => by cases h) rfl
    rw [if_neg k1]
    by_cases k2 : a2 < 0
    · rw [if_pos k2]; exact lag_j0 (by omega) b hv true (fun h => by cases h) rfl
    rw [if_neg k2]
    by_cases k3 : a1 > 1099511627776
    · rw [if_pos k3]; exact lag_j0 (by omega) b hv true (fun h => by cases h) rfl
    rw [if_neg k3]
    exact lag_j0 (by omega) b hv _ (fun h => by omega) rfl
  · rw [if_neg hv, if_neg hv]
    rfl
end Go.Proofs.Ytpbogldeojnaeaa.Pure
