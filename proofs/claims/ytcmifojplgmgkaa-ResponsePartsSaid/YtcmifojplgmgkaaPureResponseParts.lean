/- The law ResponseParts, without Go. -/
import Derived.Test.YtcmifojplgmgkaaP15
import Derived.Test.YtcmifojplgmgkaaRRef
set_option linter.unusedVariables false
namespace Go.Proofs.Ytcmifojplgmgkaa.Pure
open Go.RowKit Go.Proofs.Ytcmifojplgmgkaa.P Go.Proofs.YtcmifojplgmgkaaW.PrintWords Evs
theorem parts_true {k : Nat} (hk : 1 ≤ k) (l : List S49) (a1 a2 : Int) : ontimelaw44_ResponseParts.j0 k l a1 a2 (-1) (-1) true = some true := by
  obtain ⟨k, rfl⟩ : ∃ m, k = m + 1 := ⟨k - 1, by omega⟩
  simp only [ontimelaw44_ResponseParts.j0]
  rw [if_pos trivial, if_pos trivial]
  rfl
theorem parts_false {k : Nat} (hk : 700 ≤ k) {l : List S49} {i : Int} (w : Int) (hkn : known l i = true) :
    ontimelaw44_ResponseParts.j0 k l i w (blockV l i) (if 0 ≤ w ∧ w ≤ 100000 then interf l i w else -1) false = some true := by
  obtain ⟨hv, i0, i1⟩ := known_of_eq hkn
  obtain ⟨k, rfl⟩ : ∃ m, k = (m + 1) + 1 := ⟨k - 2, by omega⟩
  simp only [ontimelaw44_ResponseParts.j0]
  rw [if_neg (by simp), plain_eq (by omega) hv]
  simp only [Option.bind_some]
  rw [refblock_eq (by omega) hkn]
  simp only [Option.bind_some]
  rw [if_pos trivial]
  by_cases h0 : w < 0
  · rw [if_pos h0, if_neg (by omega)]
    simp only [ontimelaw44_ResponseParts.j1]
    rw [if_pos trivial]
    rfl
  · rw [if_neg h0]
    by_cases h1 : w > 100000
    · rw [decide_eq_true h1, if_neg (by omega)]
      simp only [ontimelaw44_ResponseParts.j1]
      rw [if_pos trivial]
      rfl
    · rw [decide_eq_false h1, if_pos (by omega)]
      simp only [ontimelaw44_ResponseParts.j1]
      rw [if_neg (by simp), plain_eq (by omega) hv]
      simp only [Option.bind_some]
      rw [refinterf_eq (by omega) hkn (by omega) (by omega)]
      simp only [Option.bind_some]
      rw [beq_self_eq_true]
theorem ResponseParts {P Q R : Prop} (l : List S49) (a1 a2 : Int) (_ : P) (_ : Q) (_ : R) (w1 : (Lit.int .i64 a1).wf = true) (w2 : (Lit.int .i64 a2).wf = true) : ∃ k, ontimelaw44_ResponseParts.f k l a1 a2 = some true := by
  refine ⟨1000, ?_⟩
  unfold ontimelaw44_ResponseParts.f
  rw [awake_eq (by omega)]
  simp only [Option.bind_some]
  rw [if_pos trivial, great_eq (by omega)]
  simp only [Option.bind_some]
  by_cases hg : grt l = true
  · rw [if_pos hg]
  · rw [if_neg hg]
    by_cases hkn : known l a1 = true
    · obtain ⟨hv, i0, i1⟩ := known_of_eq hkn
      rw [block_eq (by omega) hkn]
      simp only [Option.bind_some]
      rw [show response_Interference.f 1000 l a1 a2 = some (if 0 ≤ a2 ∧ a2 ≤ 100000 then interf l a1 a2 else -1) from by
        by_cases h : 0 ≤ a2 ∧ a2 ≤ 100000
        · rw [if_pos h, interf_eq (by omega) hkn h.1 h.2]
        · rw [if_neg h, interf_no (by omega) (fun hh => h hh.2)], cvalid_eq (by omega), hv]
      simp only [Option.bind_some]
      rw [if_pos trivial, if_neg (by omega), decide_eq_false (by omega)]
      exact parts_false (by omega) a2 hkn
    · have hno : known l a1 = false := by simpa using hkn
      rw [block_no (by omega) hno, interf_no (by omega) (fun h => hkn h.1), cvalid_eq (by omega)]
      simp only [Option.bind_some]
      by_cases hv : vld l = true
      · rw [if_pos hv]
        by_cases h0 : a1 < 0
        · rw [if_pos h0]
          exact parts_true (by omega) l a1 a2
        · rw [if_neg h0, decide_eq_true (show a1 ≥ (l.length : Int) from by
            rcases Int.lt_or_le a1 l.length with h | h
            · exact absurd (known_iff hv (by omega) h) hkn
            · exact h)]
          exact parts_true (by omega) l a1 a2
      · rw [if_neg hv]
        exact parts_true (by omega) l a1 a2
end Go.Proofs.Ytcmifojplgmgkaa.Pure
