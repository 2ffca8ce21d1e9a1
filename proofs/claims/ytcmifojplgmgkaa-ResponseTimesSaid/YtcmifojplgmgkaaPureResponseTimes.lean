/- The law ResponseTimes, without Go. -/
import Derived.Test.YtcmifojplgmgkaaP22
import Derived.Test.YtcmifojplgmgkaaRRef
set_option linter.unusedVariables false
namespace Go.Proofs.Ytcmifojplgmgkaa.Pure
open Go.RowKit Go.Proofs.Ytcmifojplgmgkaa.P Go.Proofs.YtcmifojplgmgkaaW.PrintWords Evs
/-- What Response answers. -/
def ansV (l : List S49) (i : Int) : Int × Int := if known l i = true then respV l i else (0, if vld l = true then 2 else 1)
theorem ans_eq {k : Nat} (hk : 1100 ≤ k) (l : List S49) (i : Int) : response_Response.f k l i = some (ansV l i) := by
  unfold ansV
  by_cases h : known l i = true
  · rw [if_pos h, respV_eq hk h]
  · rw [if_neg h, resp_no hk (by simpa using h)]
theorem times_j4 {k : Nat} (hk : 2100 ≤ k) {l : List S49} (hv : vld l = true) (i : Int) {flag : Bool} (hf : flag = !(known l i)) : ontimelaw44_ResponseTimes.j4 k l i (ansV l i).1 (ansV l i).2 flag = some true := by
  obtain ⟨k, rfl⟩ : ∃ m, k = m + 1 := ⟨k - 1, by omega⟩
  subst hf
  simp only [ontimelaw44_ResponseTimes.j4]
  by_cases hkn : known l i = true
  · rw [hkn, if_neg (by simp), plain_eq (by omega) hv]
    simp only [Option.bind_some]
    rw [refresp_eq (by omega) hkn (respV_is hkn)]
    simp only [Option.bind_some]
    unfold ansV
    rw [if_pos hkn]
    rcases respV_e hkn with h | h
    · rw [h, beq_self_eq_true, if_pos rfl, if_pos rfl, if_pos rfl]
    · rw [h]
      rfl
  · have hno : known l i = false := by simpa using hkn
    unfold ansV
    rw [hno, hv]
    rfl
/-- The last loop: the times are those of the reference. -/
theorem times_l1 {l : List S49} (hv : vld l = true) (i : Int) (all want : List Int) (hw : all.length ≤ want.length) (h20 : want.length ≤ 20) (hs : ∀ j : Nat, j < all.length → rd all (j : Int) = rd want (j : Int)) : ∀ (n j k : Nat), j + n = all.length → n + 2102 ≤ k →
    ontimelaw44_ResponseTimes.l1 k l i (ansV l i).1 (ansV l i).2 all want (all.length : Int) (j : Int) = some true := by
  intro n
  induction n with
  | zero =>
    intro j k hj hk
    obtain ⟨k, rfl⟩ : ∃ m, k = m + 1 := ⟨k - 1, by omega⟩
    simp only [ontimelaw44_ResponseTimes.l1]
    rw [if_neg (by omega)]
    by_cases h0 : i < 0
    · rw [if_pos h0]
      exact times_j4 (by omega) hv i (by rw [known_not (fun h => by omega)]; rfl)
    · rw [if_neg h0]
      refine times_j4 (by omega) hv i ?_
      by_cases h1 : i ≥ (l.length : Int)
      · rw [decide_eq_true h1, known_not (fun h => by omega)]
        rfl
      · rw [decide_eq_false h1, known_iff hv (by omega) (by omega)]
        rfl
  | succ n ih =>
    intro j k hj hk
    obtain ⟨k, rfl⟩ : ∃ m, k = m + 1 := ⟨k - 1, by omega⟩
    simp only [ontimelaw44_ResponseTimes.l1]
    rw [if_pos (by omega), if_pos (by omega), if_pos (by omega), if_pos (by omega), if_pos (hs j (by omega)), wrap64_of (x := (j : Int) + 1) (by omega) (by omega)]
    exact ih (j + 1) k (by omega) (by omega)
theorem times_j1 {k : Nat} (hk : 2130 ≤ k) {l : List S49} (hv : vld l = true) (i : Int) : 
    ontimelaw44_ResponseTimes.j1 k l i (ansV l i).1 (ansV l i).2 (if lateFrom l 0 = true then [] else timesFrom l 0) (timesFrom l 0) (lateFrom l 0) false = some true := by
  obtain ⟨k, rfl⟩ : ∃ m, k = (m + 1) + 1 := ⟨k - 2, by omega⟩
  have h20 := (vld_of hv).1
  have hl : (timesFrom l 0).length = l.length := by unfold timesFrom; simp
  simp only [ontimelaw44_ResponseTimes.j1]
  rw [if_neg (by simp)]
  by_cases h : lateFrom l 0 = true
  · rw [if_pos h, if_pos h, if_pos (by rfl)]
    simp only [ontimelaw44_ResponseTimes.j2]
    rw [if_neg (by simp)]
    exact times_l1 hv i [] (timesFrom l 0) (by simp) (by omega) (fun j hj => by simp at hj) 0 0 k (by simp) (by omega)
  · rw [if_neg h, if_neg h, hl, bne_self_eq_false]
    simp only [ontimelaw44_ResponseTimes.j2]
    rw [if_neg (by simp)]
    exact times_l1 hv i (timesFrom l 0) (timesFrom l 0) (Nat.le_refl _) (by omega) (fun j hj => rfl) _ 0 k (by rw [Nat.zero_add]) (by omega)
theorem timesFrom_end (l : List S49) {i : Nat} (h : l.length ≤ i) : timesFrom l i = [] := by
  unfold timesFrom
  rw [List.drop_of_length_le (by rw [List.length_range]; omega)]
  rfl
theorem timesFrom_cons (l : List S49) {i : Nat} (h : i < l.length) : timesFrom l i = (respV l (i : Int)).1 :: timesFrom l (i + 1) := by
  unfold timesFrom
  rw [range_drop h, List.map_cons]
theorem lateFrom_cons (l : List S49) {i : Nat} (h : i < l.length) : lateFrom l i = ((respV l (i : Int)).2 != 0 || lateFrom l (i + 1)) := by
  unfold lateFrom
  rw [range_drop h, List.any_cons]
theorem set_at {α : Type} (a : List α) (b c : α) (r : List α) : (a ++ b :: r).set a.length c = a ++ c :: r := by
  rw [List.set_append_right _ _ (Nat.le_refl _), Nat.sub_self]
  rfl
theorem times_l0 {l : List S49} (hv : vld l = true) (task : Int) : ∀ (n i k : Nat) (pre : List Int) (late : Bool), i + n = l.length → pre.length = i → n + 2140 ≤ k → 
    pre ++ timesFrom l i = timesFrom l 0 → (late || lateFrom l i) = lateFrom l 0 →
    ontimelaw44_ResponseTimes.l0 k l task (ansV l task).1 (ansV l task).2 (if lateFrom l 0 = true then [] else timesFrom l 0) (if lateFrom l 0 = true then 21 else 0) (pre ++ List.replicate n 0) late (l.length : Int) (i : Int) = some true := by
  have h20 := (vld_of hv).1
  intro n
  induction n with
  | zero =>
    intro i k pre late hi hp hk h1 h2
    obtain ⟨k, rfl⟩ : ∃ m, k = m + 1 := ⟨k - 1, by omega⟩
    rw [timesFrom_end l (by omega), List.append_nil] at h1
    have h3 : late = lateFrom l 0 := by
      rw [← h2]
      unfold lateFrom
      rw [List.drop_of_length_le (by rw [List.length_range]; omega)]
      simp
    subst h1 h3
    simp only [ontimelaw44_ResponseTimes.l0]
    rw [if_neg (by omega), List.replicate_zero, List.append_nil]
    have hs : response_Schedulable.f k l = some (!(lateFrom l 0)) := by
      unfold response_Schedulable.f
      rw [all_eq (by omega) hv]
      cases lateFrom l 0 <;> rfl
    have hj := times_j1 (show 2130 ≤ k by omega) hv task
    rw [hs]
    cases h : lateFrom l 0 with
    | false =>
      rw [h] at hj
      simpa using hj
    | true =>
      rw [h] at hj
      simpa using hj
  | succ n ih =>
    intro i k pre late hi hp hk h1 h2
    obtain ⟨k, rfl⟩ : ∃ m, k = m + 1 := ⟨k - 1, by omega⟩
    have hkn := known_iff hv (i := (i : Int)) (by omega) (by omega)
    rw [timesFrom_cons l (by omega)] at h1
    rw [lateFrom_cons l (by omega)] at h2
    have hset : (pre ++ List.replicate (n + 1) 0).set i (respV l (i : Int)).1 = (pre ++ [(respV l (i : Int)).1]) ++ List.replicate n 0 := by
      rw [List.replicate_succ, ← hp, set_at, List.append_assoc]
      rfl
    have b := fun late' => ih (i + 1) k (pre ++ [(respV l (i : Int)).1]) late' (by omega) (by simp [hp]) (by omega) (by rw [List.append_assoc]; exact h1)
    rw [show ((i + 1 : Nat) : Int) = (i : Int) + 1 by omega] at b
    simp only [ontimelaw44_ResponseTimes.l0]
    rw [if_pos (by omega), plain_eq (by omega) hv]
    simp only [Option.bind_some]
    rw [refresp_eq (by omega) hkn (respV_is hkn)]
    simp only [Option.bind_some]
    rw [if_pos (by omega), if_pos (by rw [List.length_append, List.length_replicate]; omega), Int.toNat_natCast, hset, wrap64_of (x := (i : Int) + 1) (by omega) (by omega)]
    cases late with
    | true =>
      rw [if_pos rfl]
      exact b true (by simpa using h2)
    | false =>
      rw [if_neg (by simp)]
      refine b _ ?_
      rw [← h2, Bool.false_or]
      rfl
theorem ResponseTimes {P Q R : Prop} (l : List S49) (a1 : Int) (_ : P) (_ : Q) (_ : R) (w1 : (Lit.int .i64 a1).wf = true) : ∃ k, ontimelaw44_ResponseTimes.f k l a1 = some true := by
  refine ⟨3000, ?_⟩
  unfold ontimelaw44_ResponseTimes.f
  rw [awake_eq (by omega)]
  simp only [Option.bind_some]
  rw [if_pos trivial, great_eq (by omega)]
  simp only [Option.bind_some]
  by_cases hg : grt l = true
  · rw [if_pos hg]
  · rw [if_neg hg, ans_eq (by omega)]
    simp only [Option.bind_some]
    by_cases hv : vld l = true
    · have h20 := (vld_of hv).1
      rw [all_eq (by omega) hv, cvalid_eq (by omega), hv]
      simp only [Option.bind_some]
      rw [if_pos trivial, if_pos (by omega), if_pos (by omega), Int.toNat_natCast]
      have := times_l0 hv a1 l.length 0 3000 [] false (by omega) rfl (by omega) (by rfl) (by simp)
      rw [List.nil_append, show ((0 : Nat) : Int) = 0 from rfl] at this
      rw [show (if lateFrom l 0 = true then (([] : List Int), (21 : Int)) else (timesFrom l 0, 0)).1 = if lateFrom l 0 = true then [] else timesFrom l 0 from by split <;> rfl,
        show (if lateFrom l 0 = true then (([] : List Int), (21 : Int)) else (timesFrom l 0, 0)).2 = if lateFrom l 0 = true then 21 else 0 from by split <;> rfl]
      exact this
    · have hv' : vld l = false := by simpa using hv
      have hno : known l a1 = false := known_not (fun h => hv h.1)
      rw [all_no (by omega) hv', cvalid_eq (by omega), hv']
      simp only [Option.bind_some]
      unfold ansV
      rw [hno, hv']
      unfold response_Schedulable.f
      rw [all_no (by omega) hv']
      rfl
end Go.Proofs.Ytcmifojplgmgkaa.Pure
