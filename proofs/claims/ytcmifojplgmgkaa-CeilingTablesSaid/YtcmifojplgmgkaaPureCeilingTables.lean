/- The law CeilingTables, without Go. -/
import Derived.Test.YtcmifojplgmgkaaP40
import Derived.Test.YtcmifojplgmgkaaCVal
import Derived.Test.YtcmifojplgmgkaaCMap
set_option linter.unusedVariables false
namespace Go.Proofs.Ytcmifojplgmgkaa.Pure
open Go.RowKit Go.Proofs.Ytcmifojplgmgkaa.P Go.Proofs.YtcmifojplgmgkaaW.PrintWords CEv
theorem tab_ok {l : List S49} (hv : vld l = true) {k : Nat} (hk : 300 ≤ k) : tabD k l (l.map to93) = true := by
  unfold tabD
  rw [Bool.and_eq_true, Bool.and_eq_true]
  refine ⟨⟨hv, List.all_eq_true.2 fun t ht => List.all_eq_true.2 fun s hs => ?_⟩, decide_eq_true (maps_size l)⟩
  rw [refceil_eq hv (by omega), ceilR_used ht hs, maps_has ht hs, Bool.and_true]
  exact beq_self_eq_true _
theorem active_no {l : List S49} {a d : Int} {k : Nat} (hk : 100 ≤ k) (hv : vld l = false) : ceiling_Active.f k l a d = some (-1) := by
  unfold ceiling_Active.f
  rw [cvalid_eq (by omega), hv]
  rfl
theorem active_out {l : List S49} {a d : Int} {k : Nat} (hk : 100 ≤ k) (hv : vld l = true) (h : tabOut l a d = true) : ceiling_Active.f k l a d = some (-1) := by
  have h := of_decide_eq_true h
  unfold ceiling_Active.f
  rw [cvalid_eq (by omega), hv]
  simp only [Option.bind_some]
  rw [if_pos trivial]
  by_cases h0 : 0 ≤ a
  · rw [if_pos h0]
    by_cases h1 : a < (l.length : Int)
    · rw [if_pos h1]
      by_cases h2 : 0 ≤ d
      · rw [if_pos h2, if_neg (by omega)]
      · rw [if_neg h2]
    · rw [if_neg h1]
  · rw [if_neg h0]
theorem active_in {l : List S49} {a d : Int} {k : Nat} (hk : 100 ≤ k) (hv : vld l = true) (h : tabOut l a d = false) : 0 ≤ a ∧ a < l.length ∧ ceiling_Active.f k l a d = some (activeV l a d) := by
  have h := of_decide_eq_false h
  refine ⟨by omega, by omega, ?_⟩
  unfold ceiling_Active.f
  rw [cvalid_eq (by omega), hv]
  simp only [Option.bind_some]
  rw [if_pos trivial, if_pos (by omega), if_pos (by omega), if_pos (by omega), if_pos (by omega)]
theorem CeilingTables {P Q S : Prop} (l : List S49) (a d : Int) (_ : P) (_ : Q) (_ : S) {T : Prop} (_ : T) {U : Prop} (_ : U) :
    ∃ k, ontimelaw43_CeilingTables.f k l a d = some true := by
  obtain ⟨k, hk⟩ : ∃ q : Nat, 50000 ≤ q := ⟨50000, Nat.le_refl _⟩
  refine ⟨k, ?_⟩
  unfold ontimelaw43_CeilingTables.f
  rw [cawake_eq (by omega)]
  simp only [Option.bind_some]
  rw [if_pos trivial]
  by_cases h40 : l.length ≤ 40
  · rw [if_pos h40]
    cases h16 : l.all (fun t => decide (t.f3.length ≤ 16)) with
    | false => rw [if_neg (by simp)]
    | true =>
      have h16' : ∀ t ∈ l, t.f3.length ≤ 16 := fun t ht => of_decide_eq_true (List.all_eq_true.1 h16 t ht)
      rw [if_pos rfl, cplain_eq (by omega) h40 h16']
      simp only [Option.bind_some]
      rw [cvalid_eq (by omega)]
      simp only [Option.bind_some]
      rw [refvalid_eq (by omega) h40 h16']
      simp only [Option.bind_some]
      rw [if_pos trivial]
      cases hv : vld l with
      | false =>
        rw [if_neg (by simp), active_no (by omega) hv]
        rfl
      | true =>
        rw [if_pos rfl, if_pos (tab_ok hv (by omega))]
        cases ho : tabOut l a d with
        | true =>
          rw [active_out (by omega) hv ho]
          rfl
        | false =>
          obtain ⟨a0, a1, e⟩ := active_in (k := k) (by omega) hv ho
          rw [e, refactive_eq hv (by omega) a0 a1]
          simp
  · rw [if_neg h40]
end Go.Proofs.Ytcmifojplgmgkaa.Pure
