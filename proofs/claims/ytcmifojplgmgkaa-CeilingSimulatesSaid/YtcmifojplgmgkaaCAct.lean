/- The reference's active priority. -/
import Derived.Test.YtcmifojplgmgkaaP31
import Derived.Test.YtcmifojplgmgkaaCRef
import Derived.DataShut
set_option linter.unusedVariables false
set_option linter.unusedSectionVars false
namespace Go.Proofs.Ytcmifojplgmgkaa.CEv
open Go.RowKit Go.Proofs.Ytcmifojplgmgkaa.P Go.Proofs.YtcmifojplgmgkaaW.PrintWords Go.Proofs.YtcmifojplgmgkaaW.PrintMore
/-! The reference -/
theorem rd93_to (l : List S49) {i : Int} (h0 : 0 ≤ i) (h1 : i < l.length) : rd_T93 (l.map to93) i = to93 (rd_T49 l i) := by
  have a := rd93_at (l.map to93) i.toNat (by rw [List.length_map]; omega)
  have b := rd49_at l i.toNat (by omega)
  rw [Int.toNat_of_nonneg h0] at a b
  rw [a, b, List.getElem_map]
def uses93 (t : S93) (o : Int) : Bool := t.f3.any fun s => s.f0 == o
theorem uses93_to (t : S49) (o : Int) : uses93 (to93 t) o = usesO t o := by
  unfold uses93 usesO to93
  simp only [List.any_map]
  rfl
def ceilR (l : List S49) (o : Int) : Int := (((l.findIdx? fun t => usesO t o).getD l.length : Nat) : Int)
theorem refceil_l1 (P : List S93) (o : Int) (x5 : Nat) (h5 : x5 < P.length) (h10 : P[x5].f3.length ≤ 10) : ∀ (n i k : Nat), i + n = P[x5].f3.length →
    ontimeref43_Ceiling.l1 (k + (n + 1)) P o (x5 : Int) (i : Int) = if ((P[x5].f3.drop i).any fun s => s.f0 == o) = true then some (x5 : Int) else ontimeref43_Ceiling.l0 k P o (wrap64 ((x5 : Int) + 1)) := by
  intro n
  induction n with
  | zero =>
    intro i k hi
    simp only [ontimeref43_Ceiling.l1]
    rw [if_pos (by omega), if_pos (by omega), rd93_at P x5 h5, if_neg (by omega), List.drop_of_length_le (by omega)]
    rfl
  | succ n ih =>
    intro i k hi
    have hil : i < P[x5].f3.length := by omega
    have b := ih (i + 1) k (by omega)
    rw [show k + (n + 1 + 1) = (k + (n + 1)) + 1 by omega]
    generalize k + (n + 1) = q at b ⊢
    simp only [ontimeref43_Ceiling.l1]
    rw [if_pos (by omega), if_pos (by omega), rd93_at P x5 h5, if_pos (by omega), if_pos (by omega), rd94_at P[x5].f3 i hil, List.drop_eq_getElem_cons hil, List.any_cons]
    by_cases hc : P[x5].f3[i].f0 = o
    · rw [if_pos hc, beq_iff_eq.2 hc, Bool.true_or, if_pos rfl]
    · rw [if_neg hc, beq_eq_false_iff_ne.2 hc, Bool.false_or, wrap64_of (x := (i : Int) + 1) (by omega) (by omega)]
      exact b
theorem refceil_l0 (P : List S93) (o : Int) (h20 : P.length ≤ 20) (h10 : ∀ t ∈ P, t.f3.length ≤ 10) : ∀ (n i k : Nat), i + n = P.length → 12 * n + 1 ≤ k →
    ontimeref43_Ceiling.l0 k P o (i : Int) = some (match (P.drop i).findIdx? (fun t => uses93 t o) with | some j => ((i + j : Nat) : Int) | none => (P.length : Int)) := by
  intro n
  induction n with
  | zero =>
    intro i k hi hk
    obtain ⟨k, rfl⟩ : ∃ m, k = m + 1 := ⟨k - 1, by omega⟩
    simp only [ontimeref43_Ceiling.l0]
    rw [if_neg (by omega), List.drop_of_length_le (by omega)]
    rfl
  | succ n ih =>
    intro i k hi hk
    have hil : i < P.length := by omega
    have h := h10 P[i] (List.getElem_mem _)
    obtain ⟨k, rfl⟩ : ∃ m, k = (m + (P[i].f3.length + 1)) + 1 := ⟨k - P[i].f3.length - 2, by omega⟩
    have a := refceil_l1 P o i hil h P[i].f3.length 0 k (by omega)
    rw [show ((0 : Nat) : Int) = 0 from rfl, List.drop_zero] at a
    generalize k + (P[i].f3.length + 1) = q at a ⊢
    simp only [ontimeref43_Ceiling.l0]
    rw [if_pos (by omega), a, List.drop_eq_getElem_cons hil, List.findIdx?_cons, show (P[i].f3.any fun s => s.f0 == o) = uses93 P[i] o from rfl]
    by_cases hc : uses93 P[i] o = true
    · rw [if_pos hc, if_pos hc]
      rfl
    · rw [if_neg hc, if_neg hc, wrap64_of (x := (i : Int) + 1) (by omega) (by omega)]
      have b := ih (i + 1) k (by omega) (by omega)
      rw [show ((i + 1 : Nat) : Int) = (i : Int) + 1 by omega] at b
      rw [b]
      cases (P.drop (i + 1)).findIdx? (fun t => uses93 t o) with
      | none => rfl
      | some j => simp only [Option.map_some]; rw [show i + 1 + j = i + (j + 1) by omega]
section
variable {l : List S49} (hv : vld l = true)
include hv
theorem vld_len : l.length ≤ 20 ∧ ∀ t ∈ l, t.f3.length ≤ 8 := ⟨(vld_of hv).1, fun t ht => (vldT_of ((vld_of hv).2 t ht)).2.2.2.2.2.2.1⟩
theorem refceil_eq {k : Nat} (hk : 250 ≤ k) (o : Int) : ontimeref43_Ceiling.f k (l.map to93) o = some (ceilR l o) := by
  obtain ⟨h20, h8⟩ := vld_len hv
  unfold ontimeref43_Ceiling.f ceilR
  have := refceil_l0 (l.map to93) o (by rw [List.length_map]; exact h20) (fun t ht => by
    obtain ⟨x, hx, rfl⟩ := List.mem_map.1 ht
    have := h8 x hx
    unfold to93
    simp only [List.length_map]
    omega) (l.map to93).length 0 k (by omega) (by rw [List.length_map]; omega)
  rw [show ((0 : Nat) : Int) = 0 from rfl, List.drop_zero, List.findIdx?_map, List.length_map] at this
  rw [this, show ((fun t => uses93 t o) ∘ to93) = fun t => usesO t o from funext fun t => uses93_to t o]
  cases l.findIdx? (fun t => usesO t o) with
  | none => rfl
  | some j => simp
end
/-- An object that is used: both ceilings are the same. -/
theorem ceilR_used {l : List S49} {t : S49} {s : S68} (ht : t ∈ l) (hs : s ∈ t.f3) : ceilR l s.f0 = ceilF l s.f0 := by
  unfold ceilR ceilF
  cases e : l.findIdx? (fun t => usesO t s.f0) with
  | some j => rfl
  | none =>
    have := List.findIdx?_eq_none_iff.1 e t ht
    unfold usesO at this
    have := List.any_eq_false.1 this s hs
    simp at this
def heldRes : Option S68 → Int × Bool
  | some s => (s.f0, true)
  | none => (0, false)
theorem held_l0 (d a b c : Int) (ss : List S68) (h8 : ss.length ≤ 16) : ∀ (n i k : Nat), i + n = ss.length → n + 1 ≤ k → ontimeref43_Held.l0 k d (i : Int) a b c (ss.map to94) = some (heldRes (inSec (ss.drop i) d)) := by
  intro n
  induction n with
  | zero =>
    intro i k hi hk
    obtain ⟨k, rfl⟩ : ∃ m, k = m + 1 := ⟨k - 1, by omega⟩
    simp only [ontimeref43_Held.l0]
    rw [if_neg (by rw [List.length_map]; omega), List.drop_of_length_le (by omega)]
    rfl
  | succ n ih =>
    intro i k hi hk
    obtain ⟨k, rfl⟩ : ∃ m, k = m + 1 := ⟨k - 1, by omega⟩
    have hil : i < ss.length := by omega
    have e1 : rd_T94 (ss.map to94) (i : Int) = to94 ss[i] := by rw [rd94_at _ i (by rw [List.length_map]; exact hil), List.getElem_map]
    have := ih (i + 1) k (by omega) (by omega)
    rw [show ((i + 1 : Nat) : Int) = (i : Int) + 1 by omega] at this
    simp only [ontimeref43_Held.l0]
    rw [if_pos (by rw [List.length_map]; omega), if_pos (by omega), e1, wrap64_of (x := (i : Int) + 1) (by omega) (by omega), List.drop_eq_getElem_cons hil]
    unfold inSec at this ⊢
    rw [List.find?_cons, this, show (to94 ss[i]).f0 = ss[i].f0 from rfl, show (to94 ss[i]).f1 = ss[i].f1 from rfl, show (to94 ss[i]).f2 = ss[i].f2 from rfl]
    by_cases h1 : ss[i].f1 < d
    · rw [if_pos h1, decide_eq_true h1]
      by_cases h2 : d < ss[i].f2
      · rw [if_pos h2, decide_eq_true h2]
        rfl
      · rw [if_neg h2, decide_eq_false h2]
        rfl
    · rw [if_neg h1, decide_eq_false h1]
      rfl
theorem refactive_eq {l : List S49} (hv : vld l = true) {k : Nat} (hk : 300 ≤ k) {t d : Int} (h0 : 0 ≤ t) (h1 : t < l.length) : ontimeref43_Active.f k (l.map to93) t d = some ((rankV l t d).1) := by
  obtain ⟨h20, h8⟩ := vld_len hv
  have hm := rd49_mem h0 h1
  have h16 := h8 _ hm
  unfold ontimeref43_Active.f ontimeref43_Held.f
  have := held_l0 d (rd_T49 l t).f0 (rd_T49 l t).f1 (rd_T49 l t).f2 (rd_T49 l t).f3 (by omega) (rd_T49 l t).f3.length 0 k (by omega) (by omega)
  rw [show ((0 : Nat) : Int) = 0 from rfl, List.drop_zero] at this
  rw [if_pos h0, if_pos (by rw [List.length_map]; exact h1), rd93_to l h0 h1]
  show (ontimeref43_Held.l0 k d 0 (rd_T49 l t).f0 (rd_T49 l t).f1 (rd_T49 l t).f2 ((rd_T49 l t).f3.map to94)).bind _ = _
  rw [this]
  simp only [Option.bind_some]
  unfold rankV
  cases e : inSec (rd_T49 l t).f3 d with
  | none => rfl
  | some s =>
    have hs : s ∈ (rd_T49 l t).f3 := List.mem_of_find?_eq_some e
    simp only [heldRes]
    rw [if_pos trivial, refceil_eq hv (by omega)]
    simp only [Option.bind_some]
    rw [ceilR_used hm hs]
    unfold mn
    by_cases hc : ceilF l s.f0 < t
    · rw [if_pos hc, if_pos hc]
    · rw [if_neg hc, if_neg hc]
end Go.Proofs.Ytcmifojplgmgkaa.CEv
