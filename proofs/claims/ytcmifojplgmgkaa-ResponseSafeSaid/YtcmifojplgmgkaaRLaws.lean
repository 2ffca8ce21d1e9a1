/- The chapter's example holds, and what is too great. -/
import Derived.Test.YtcmifojplgmgkaaP10
import Derived.Test.YtcmifojplgmgkaaRNum
import Derived.DataShut
set_option linter.unusedVariables false
namespace Go.Proofs.Ytcmifojplgmgkaa.Evs
open Go.RowKit Go.Proofs.Ytcmifojplgmgkaa.P Go.Proofs.YtcmifojplgmgkaaW.PrintWords Go.Proofs.YtcmifojplgmgkaaW.PrintMore
set_option maxRecDepth 100000 in
theorem awake_at : ontimelaw44_awake.f 60 = some true := by decide +kernel
theorem awake_eq {k : Nat} (hk : 60 ≤ k) : ontimelaw44_awake.f k = some true := at_rounds ontimelaw44_awake.mono hk awake_at
/-- Whether a list is too great. -/
def grt (l : List S49) : Bool := decide (8 < l.length) || l.any fun t => decide (10 < t.f3.length)
theorem great_l0 (l : List S49) (h8 : l.length ≤ 8) : ∀ (n i k : Nat), i + n = l.length → n + 2 ≤ k → ontimelaw44_great.l0 k l (l.length : Int) (i : Int) = some ((l.drop i).any fun t => decide (10 < t.f3.length)) := by
  intro n
  induction n with
  | zero =>
    intro i k hi hk
    obtain ⟨k, rfl⟩ : ∃ m, k = m + 1 := ⟨k - 1, by omega⟩
    simp only [ontimelaw44_great.l0]
    rw [if_neg (by omega), List.drop_of_length_le (by omega)]
    rfl
  | succ n ih =>
    intro i k hi hk
    obtain ⟨k, rfl⟩ : ∃ m, k = m + 1 := ⟨k - 1, by omega⟩
    have hil : i < l.length := by omega
    simp only [ontimelaw44_great.l0]
    rw [if_pos (by omega), if_pos (by omega), if_pos (by omega), rd49_at l i hil, List.drop_eq_getElem_cons hil, List.any_cons]
    by_cases hc : ((l[i].f3.length : Nat) : Int) > 10
    · rw [if_pos hc, decide_eq_true (show 10 < l[i].f3.length by omega)]
      rfl
    · rw [if_neg hc, decide_eq_false (show ¬ 10 < l[i].f3.length by omega), Bool.false_or, wrap64_of (x := (i : Int) + 1) (by omega) (by omega)]
      exact ih (i + 1) k (by omega) (by omega)
theorem great_eq {k : Nat} (hk : 12 ≤ k) (l : List S49) : ontimelaw44_great.f k l = some (grt l) := by
  unfold ontimelaw44_great.f grt
  by_cases h : (l.length : Int) > 8
  · rw [if_pos h, decide_eq_true (show 8 < l.length by omega), Bool.true_or]
  · rw [if_neg h, decide_eq_false (show ¬ 8 < l.length by omega), Bool.false_or]
    exact great_l0 l (by omega) l.length 0 k (by omega) (by omega)
theorem grt_of {l : List S49} (h : grt l = false) : l.length ≤ 8 ∧ ∀ t ∈ l, t.f3.length ≤ 10 := by
  unfold grt at h
  rw [Bool.or_eq_false_iff] at h
  refine ⟨by have := of_decide_eq_false h.1; omega, fun t ht => ?_⟩
  have := List.any_eq_false.1 h.2 t ht
  simp only [decide_eq_true_eq] at this
  omega
theorem known_iff {l : List S49} (hv : vld l = true) {i : Int} (h0 : 0 ≤ i) (h1 : i < l.length) : known l i = true := by
  unfold known
  rw [hv, decide_eq_true ⟨h0, h1⟩]
  rfl
theorem known_not {l : List S49} {i : Int} (h : ¬ (vld l = true ∧ 0 ≤ i ∧ i < l.length)) : known l i = false := by
  cases e : known l i with
  | false => rfl
  | true => exact absurd (known_of_eq e) h
theorem b8 {a : Int} (h : (Lit.int .u8 a).wf = true) : 0 ≤ a ∧ a ≤ 255 := by
  have := (Lit.wf_int_iff _ _).1 h
  rwa [show IntKind.u8.min = 0 from by decide, show IntKind.u8.max = 255 from by decide] at this
theorem b16 {a : Int} (h : (Lit.int .u16 a).wf = true) : 0 ≤ a ∧ a ≤ 65535 := by
  have := (Lit.wf_int_iff _ _).1 h
  rwa [show IntKind.u16.min = 0 from by decide, show IntKind.u16.max = 65535 from by decide] at this
theorem b64 {a : Int} (h : (Lit.int .i64 a).wf = true) : -9223372036854775808 ≤ a ∧ a ≤ 9223372036854775807 := by
  have := (Lit.wf_int_iff _ _).1 h
  rwa [show IntKind.i64.min = -9223372036854775808 from by decide, show IntKind.i64.max = 9223372036854775807 from by decide] at this
/-- A number turned to one below another. -/
theorem tmod_bd {a n : Int} (ha : 0 ≤ a) (ha2 : a ≤ 65535) (hn : 0 < n) : 0 ≤ Int.tmod (wrap64 a) n ∧ Int.tmod (wrap64 a) n < n := by
  rw [wrap64_of (by omega) (by omega), Int.tmod_eq_emod_of_nonneg ha]
  exact ⟨Int.emod_nonneg _ (by omega), Int.emod_lt_of_pos _ hn⟩
end Go.Proofs.Ytcmifojplgmgkaa.Evs
