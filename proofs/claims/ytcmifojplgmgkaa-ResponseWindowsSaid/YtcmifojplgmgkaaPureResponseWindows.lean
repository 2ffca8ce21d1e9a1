/- The law ResponseWindows, without Go. -/
import Derived.Test.YtcmifojplgmgkaaP20
import Derived.Test.YtcmifojplgmgkaaRLaws
set_option linter.unusedVariables false
namespace Go.Proofs.Ytcmifojplgmgkaa.Pure
open Go.RowKit Go.Proofs.Ytcmifojplgmgkaa.P Go.Proofs.YtcmifojplgmgkaaW.PrintWords Evs
theorem windows_true {k : Nat} (hk : 1 ≤ k) (l : List S49) (a1 a2 a3 : Int) : ontimelaw44_ResponseWindows.j0 k l a1 a2 a3 true = some true := by
  obtain ⟨k, rfl⟩ : ∃ m, k = m + 1 := ⟨k - 1, by omega⟩
  simp only [ontimelaw44_ResponseWindows.j0]
  rw [if_pos trivial]
theorem windows_false {k : Nat} (hk : 50 ≤ k) {l : List S49} {a1 a2 a3 : Int} (hv : vld l = true) (hl : l.length ≠ 0) (h8 : l.length ≤ 8) (w1 : 0 ≤ a1 ∧ a1 ≤ 255) (w2 : 0 ≤ a2 ∧ a2 ≤ 65535) (w3 : 0 ≤ a3 ∧ a3 ≤ 65535) :
    ontimelaw44_ResponseWindows.j0 k l a1 a2 a3 false = some true := by
  obtain ⟨k, rfl⟩ : ∃ m, k = m + 1 := ⟨k - 1, by omega⟩
  simp only [ontimelaw44_ResponseWindows.j0]
  rw [if_neg (by simp), if_neg (by omega)]
  obtain ⟨i0, i1⟩ := tmod_bd (a := a1) (n := (l.length : Int)) w1.1 (by omega) (by omega)
  obtain ⟨v0, v1⟩ := tmod_bd (a := a2) (n := 40000) w2.1 (by omega) (by omega)
  obtain ⟨u0, u1⟩ := tmod_bd (a := a3) (n := 40000) w3.1 (by omega) (by omega)
  generalize Int.tmod (wrap64 a1) (l.length : Int) = i at *
  generalize Int.tmod (wrap64 a2) 40000 = v at *
  generalize Int.tmod (wrap64 a3) 40000 = u at *
  have hkn := known_iff hv i0 i1
  have hp := Pos.of_vld hv
  have h20 := (vld_of hv).1
  rw [wrap64_of (x := v + u) (by omega) (by omega), interf_eq (by omega) hkn v0 (by omega), interf_eq (by omega) hkn u0 (by omega), interf_eq (by omega) hkn (show 0 ≤ v + u by omega) (by omega), interf_eq (by omega) hkn (Int.le_refl 0) (by omega),
    interf_no (by omega) (show ¬ (known l i = true ∧ (0 : Int) ≤ 100001 ∧ (100001 : Int) ≤ 100000) by omega)]
  simp only [Option.bind_some]
  have b1 := interf_bd hp h20 i v0 (by omega)
  have b2 := interf_bd hp h20 i u0 (by omega)
  have n1 := interf_nonneg hp i v0
  have n2 := interf_nonneg hp i u0
  have z : interf l i 0 = 0 := isum_zero (hp.take _)
  have m1 := interf_mono hp i (show v ≤ v + u by omega)
  have m2 := interf_mono hp i (show u ≤ v + u by omega)
  have ad : interf l i (v + u) ≤ interf l i v + interf l i u := isum_add (hp.take _)
  rw [if_pos z, if_pos m1, if_pos m2, wrap64_of (x := interf l i v + interf l i u) (by omega) (by omega), if_pos ad]
  by_cases hi : i > 0
  · rw [if_pos hi]
    rfl
  · rw [if_neg hi, if_pos (by obtain rfl : i = 0 := by omega
                              simp [interf, isum])]
    rfl
theorem ResponseWindows {P Q R : Prop} (l : List S49) (a1 a2 a3 : Int) (_ : P) (_ : Q) (_ : R) (w1 : (Lit.int .u8 a1).wf = true) (w2 : (Lit.int .u16 a2).wf = true) (w3 : (Lit.int .u16 a3).wf = true) :
    ∃ k, ontimelaw44_ResponseWindows.f k l a1 a2 a3 = some true := by
  refine ⟨100, ?_⟩
  unfold ontimelaw44_ResponseWindows.f
  rw [awake_eq (by omega)]
  simp only [Option.bind_some]
  rw [if_pos trivial, great_eq (by omega)]
  simp only [Option.bind_some]
  by_cases hg : grt l = true
  · rw [if_pos hg]
    exact windows_true (by omega) l a1 a2 a3
  · rw [if_neg hg]
    by_cases hl : (l.length : Int) = 0
    · rw [if_pos hl]
      exact windows_true (by omega) l a1 a2 a3
    · rw [if_neg hl, cvalid_eq (by omega)]
      simp only [Option.bind_some]
      by_cases hv : vld l = true
      · rw [hv]
        exact windows_false (by omega) hv (by omega) (grt_of (by simpa using hg)).1 (b8 w1) (b16 w2) (b16 w3)
      · rw [show vld l = false by simpa using hv]
        exact windows_true (by omega) l a1 a2 a3
end Go.Proofs.Ytcmifojplgmgkaa.Pure
