/- The law CeilingSimulates, without Go. -/
import Derived.Test.YtcmifojplgmgkaaP34
import Derived.Test.YtcmifojplgmgkaaCSame
set_option linter.unusedVariables false
namespace Go.Proofs.Ytcmifojplgmgkaa.Pure
open Go.RowKit Go.Proofs.Ytcmifojplgmgkaa.P Go.Proofs.YtcmifojplgmgkaaW.PrintWords CEv
theorem sims_ok {xs : List S64} (hl : xs.length ≤ 1000) : simsOk (xs.map conv64) xs = true := by
  unfold simsOk
  rw [Bool.and_eq_true]
  refine ⟨decide_eq_true ⟨List.length_map _, by omega⟩, List.all_eq_true.2 fun i hi => decide_eq_true ?_⟩
  have hil : i < xs.length := List.mem_range.1 hi
  have h1 : rd_T64 xs (i : Int) = xs[i] := by
    unfold rd_T64
    rw [Int.toNat_natCast, List.getD_eq_getElem?_getD, List.getElem?_eq_getElem hil]
    rfl
  have h2 : rd_T34 (xs.map conv64) (i : Int) = conv64 xs[i] := by
    unfold rd_T34
    rw [Int.toNat_natCast, List.getD_eq_getElem?_getD, List.getElem?_map, List.getElem?_eq_getElem hil]
    rfl
  rw [h1, h2]
  exact ⟨rfl, rfl, rfl, rfl, rfl⟩
theorem CeilingSimulates {P Q R S : Prop} (l : List S49) (rel : List (List Int)) (a : Int) (_ : P) (_ : Q) (_ : R) (_ : S) (hw : ∀ r ∈ rel, r.length ≤ maxLen ∧ ∀ x ∈ r, (Lit.int .i64 x).wf = true) {T : Prop} (_ : T) {U : Prop} (_ : U) :
    ∃ k, ontimelaw43_CeilingSimulates.f k l rel a = some true := by
  obtain ⟨k, hk⟩ : ∃ q : Nat, 90000 ≤ q := ⟨90000, Nat.le_refl _⟩
  refine ⟨k, ?_⟩
  unfold ontimelaw43_CeilingSimulates.f
  rw [cawake_eq (by omega)]
  simp only [Option.bind_some]
  rw [if_pos trivial, fits_eq (by omega) (w64_of hw)]
  simp only [Option.bind_some]
  by_cases hf : fitsV l rel a = true
  · obtain ⟨f1, f2, f3, f4, f5, f6, f7⟩ := fitsV_of hf
    obtain ⟨_, _, _, f8, _⟩ := fewV_of (show fewV l rel a = true by unfold fitsV at hf; rw [Bool.and_eq_true] at hf; exact hf.1)
    have ha := fits_adm hf
    have hA := (Adm.of ha).1
    obtain ⟨out, run, e, he, hol⟩ := ref_sim hA (k := k) (by omega) f2 (by omega) (fun r hr => by have := f7 r hr; omega)
    rw [if_pos hf, sim_eq (by omega) (fun r h => ⟨by have := f7 r h; omega, w64_of hw r h⟩), ha, if_pos rfl]
    simp only [Option.bind_some]
    rw [cplain_eq (by omega) (by omega) f8]
    simp only [Option.bind_some]
    rw [e]
    simp only [Option.bind_some]
    rw [if_pos trivial, ← he, if_pos (sims_ok hol)]
  · rw [if_neg hf]
end Go.Proofs.Ytcmifojplgmgkaa.Pure
