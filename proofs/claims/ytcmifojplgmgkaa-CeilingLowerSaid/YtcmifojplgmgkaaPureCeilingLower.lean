/- The law CeilingLower, without Go. -/
import Derived.Test.YtcmifojplgmgkaaP35
import Derived.Test.YtcmifojplgmgkaaCEq
set_option linter.unusedVariables false
namespace Go.Proofs.Ytcmifojplgmgkaa.Pure
open Go.RowKit Go.Proofs.Ytcmifojplgmgkaa.P Go.Proofs.YtcmifojplgmgkaaW.PrintWords CEv
theorem rd_last (l : List S49) (x : S49) (t : Int) (h0 : (l.length : Int) ≤ t) (h1 : t < (l ++ [x]).length) : rd_T49 (l ++ [x]) t = x := by
  rw [List.length_append, List.length_singleton] at h1
  obtain rfl : t = ((l.length : Nat) : Int) := by omega
  rw [rd49_at _ l.length (by simp)]
  simp
theorem CeilingLower {P Q R S T U V X Y Z A B : Prop} (l : List S49) (rel : List (List Int)) (a x0 x1 x2 : Int) (l3 : List S68) (l4 : List Int) (_ : P) (_ : Q) (_ : R) (_ : S) (hw : ∀ r ∈ rel, r.length ≤ maxLen ∧ ∀ x ∈ r, (Lit.int .i64 x).wf = true) (_ : T) (_ : U) (_ : V) (_ : X) (_ : Y) (_ : Z) (_ : A)
    (hw4 : ∀ x ∈ l4, (Lit.int .i64 x).wf = true) (_ : B) : ∃ k, ontimelaw43_CeilingLower.f k l rel a x0 x1 x2 l3 l4 = some true := by
  obtain ⟨k, hk⟩ : ∃ q : Nat, 2000000 ≤ q := ⟨2000000, Nat.le_refl _⟩
  refine ⟨k, ?_⟩
  unfold ontimelaw43_CeilingLower.f
  rw [cawake_eq (by omega)]
  simp only [Option.bind_some]
  rw [if_pos trivial, fits_eq (by omega) (w64_of hw)]
  simp only [Option.bind_some]
  cases hf : fitsV l rel a with
  | false => rw [if_neg (by simp)]
  | true =>
  obtain ⟨f1, f2, f3, f4, f5, f6, f7⟩ := fitsV_of hf
  have ha := fits_adm hf
  rw [if_pos rfl]
  by_cases h6 : l4.length ≤ 6
  case neg => rw [if_neg h6]
  rw [if_pos h6, if_pos ⟨by omega, by omega⟩, cvalid_eq (by omega)]
  simp only [Option.bind_some]
  obtain ⟨m, hm⟩ : ∃ m, m = l ++ [(⟨x0, x1, x2, []⟩ : S49)] := ⟨_, rfl⟩
  obtain ⟨q, hq⟩ : ∃ q, q = rel ++ [l4] := ⟨_, rfl⟩
  have hml : m.length = l.length + 1 := by rw [hm]; simp
  have hql : q.length = rel.length + 1 := by rw [hq]; simp
  have ht : m.take l.length = l := by rw [hm, List.take_left]
  have hqt : q.take l.length = rel := by rw [hq, ← f5, List.take_left]
  have hb : ∀ t : Int, ((l.length : Nat) : Int) ≤ t → t < m.length → (rd_T49 m t).f3 = [] := fun t h0 h1 => by
    rw [hm] at h1 ⊢
    rw [rd_last l _ t h0 h1]
  have hr : ∀ r ∈ q, r.length ≤ 2000 ∧ W64 r := fun r h => by
    rw [hq] at h
    rcases List.mem_append.1 h with h | h
    · exact ⟨by have := f7 r h; omega, w64_of hw r h⟩
    · rw [List.mem_singleton.1 h]
      exact ⟨by omega, fun x hx => by
        have := hw4 x hx
        simp only [Lit.wf, Bool.and_eq_true, decide_eq_true_eq] at this
        exact this⟩
  rw [← hm, ← hq]
  clear hm hq
  cases hv : vld m with
  | false => rw [if_neg (by simp)]
  | true =>
  have h16 : ∀ t ∈ m, t.f3.length ≤ 16 := fun t ht => by have := (vldT_of ((vld_of hv).2 t ht)).2.2.2.2.2.2.1; omega
  have he : q.length = m.length := by omega
  rw [if_pos rfl, cplain_eq (by omega) (by omega) h16]
  simp only [Option.bind_some]
  rw [spaced_eq (by omega) he hr (by omega)]
  simp only [Option.bind_some]
  cases hs : spcAll m q with
  | false => rw [if_neg (by simp)]
  | true =>
  have hadm : admV m q a = 0 := by
    unfold admV
    rw [if_pos ⟨hv, he⟩, if_pos (by omega), if_pos hs]
  have hA := (Adm.of hadm).1
  have hlow := sim_low hA l.length (by omega) (fun t h0 h1 => hb t h0 h1) a
  rw [ht, hqt] at hlow
  have hlen := simV_len m q a
  have hlen2 := simV_len l rel a
  rw [if_pos rfl, sim_eq (by omega) (fun r h => ⟨by have := f7 r h; omega, w64_of hw r h⟩), ha, if_pos rfl]
  simp only [Option.bind_some]
  rw [sim_eq (by omega) hr, hadm, if_pos rfl]
  simp only [Option.bind_some]
  rw [if_pos ⟨trivial, trivial, by omega⟩, show (simV m q a).filter (lowJ (l.length : Int)) = simV l rel a from hlow.symm, job_eq (by omega) (by omega)]
  rfl
end Go.Proofs.Ytcmifojplgmgkaa.Pure
