/- The law ResponseMonotone, without Go. -/
import Derived.Test.YtcmifojplgmgkaaP18
import Derived.Test.YtcmifojplgmgkaaRRef
set_option linter.unusedVariables false
set_option linter.unusedSectionVars false
namespace Go.Proofs.Ytcmifojplgmgkaa.Pure
open Go.RowKit Go.Proofs.Ytcmifojplgmgkaa.P Go.Proofs.YtcmifojplgmgkaaW.PrintWords Go.Proofs.YtcmifojplgmgkaaW.PrintMore Evs
theorem fix_under {l : List S49} {i : Int} (hkn : known l i = true) : ∀ (n : Nat) (x : Int), x.toNat = n → 0 ≤ x → nextV l i x ≤ x → ∃ w, 0 ≤ w ∧ w ≤ x ∧ nextV l i w = w := by
  intro n
  induction n using Nat.strongRecOn with
  | ind n ih =>
    intro x hx x0 hle
    by_cases he : nextV l i x = x
    · exact ⟨x, x0, Int.le_refl _, he⟩
    · have h1 := nextV_ge hkn x0
      have h2 := ownV_bd hkn
      obtain ⟨w, w0, w1, w2⟩ := ih (nextV l i x).toNat (by omega) (nextV l i x) rfl (by omega) (nextV_mono hkn hle)
      exact ⟨w, w0, by omega, w2⟩
/-- More work: a later response time, or none. -/
theorem resp_more {l m : List S49} {i : Int} (hl : known l i = true) (hm : known m i = true) (hn : ∀ w, 0 ≤ w → nextV l i w ≤ nextV m i w) (h0 : (respV l i).2 = 0) : ((respV m i).2 = 0 ∧ (respV l i).1 ≤ (respV m i).1) ∨ (respV m i).2 = 21 := by
  rcases respV_is hm with ⟨k1, k2, k3, k4, k5⟩ | ⟨k1, _⟩
  · refine .inl ⟨k1, ?_⟩
    have := hn (respV m i).1 (by omega)
    obtain ⟨w, w0, w1, w2⟩ := fix_under hl _ (respV m i).1 rfl (by omega) (by omega)
    rcases respV_is hl with ⟨j1, j2, j3, j4, j5⟩ | ⟨j1, _⟩
    · have := j5 w w0 w2
      omega
    · rw [j1] at h0
      cases h0
  · rw [k1]
    exact .inr rfl
/-- The blocking, out of the sections alone. -/
def ceilS (S : List (List S68)) (o : Int) : Int := ((S.findIdx? fun ss => ss.any fun s => s.f0 == o).getD 0 : Nat)
theorem ceilF_S (l : List S49) (o : Int) : ceilF l o = ceilS (l.map (·.f3)) o := by
  unfold ceilF ceilS
  rw [List.findIdx?_map]
  rfl
theorem secMax_S {l m : List S49} (h : l.map (·.f3) = m.map (·.f3)) (i a : Int) (ss : List S68) : secMax l i a ss = secMax m i a ss := by
  unfold secMax
  congr 1
  funext a s
  rw [ceilF_S, ceilF_S, h]
theorem block_S {l m : List S49} (h : l.map (·.f3) = m.map (·.f3)) (i : Int) : blockV l i = blockV m i := by
  unfold blockV
  have e : ∀ (a : Int) (x : List S49), x.foldl (fun a t => secMax l i a t.f3) a = (x.map (·.f3)).foldl (fun a ss => secMax l i a ss) a := fun a x => by rw [List.foldl_map]
  have e2 : ∀ (a : Int) (x : List S49), x.foldl (fun a t => secMax m i a t.f3) a = (x.map (·.f3)).foldl (fun a ss => secMax l i a ss) a := fun a x => by
    rw [List.foldl_map]
    congr 1
    funext a t
    exact (secMax_S h i a t.f3).symm
  rw [e, e2, List.map_drop, List.map_drop, h]
theorem isum_set_le {w : Int} : ∀ (l : List S49) (j : Nat) (t' : S49), (∀ t, l[j]? = some t → t.f0 * cdiv w t.f1 ≤ t'.f0 * cdiv w t'.f1) → isum l w ≤ isum (l.set j t') w
  | [], _, _, _ => by simp
  | t :: r, 0, t', h => by
    have := h t rfl
    simp only [List.set_cons_zero, isum]
    omega
  | t :: r, j + 1, t', h => by
    have := isum_set_le r j t' (fun x hx => h x (by simpa using hx))
    simp only [List.set_cons_succ, isum]
    omega
theorem cdiv_anti {w p q : Int} (hw : 0 ≤ w) (hq : 1 ≤ q) (h : q ≤ p) : cdiv w p ≤ cdiv w q := by
  rw [cdiv_le_iff (by omega)]
  have a := cdiv_self (w := w) hq
  have b := cdiv_nonneg hw hq
  have c := Int.mul_le_mul_of_nonneg_left h b
  omega
section
variable {l : List S49} {i j m : Int} (hkn : known l i = true) (j0 : 0 ≤ j) (j1 : j < l.length) (m0 : 0 ≤ m)
include hkn j0 j1 m0
theorem get_j : l[j.toNat]? = some (rd_T49 l j) := by
  have b := rd49_at l j.toNat (by omega)
  rw [Int.toNat_of_nonneg j0] at b
  rw [List.getElem?_eq_getElem (by omega), b]
theorem task_j : 1 ≤ (rd_T49 l j).f0 ∧ (rd_T49 l j).f0 ≤ 1000 ∧ 1 ≤ (rd_T49 l j).f1 ∧ (rd_T49 l j).f1 ≤ 1000 ∧ 1 ≤ (rd_T49 l j).f2 ∧ (rd_T49 l j).f2 ≤ (rd_T49 l j).f1 :=
  task_bd (known_iff (known_of_eq hkn).1 j0 j1)
theorem set_f3 (t' : S49) (h : t'.f3 = (rd_T49 l j).f3) : l.map (·.f3) = (l.set j.toNat t').map (·.f3) := by
  rw [List.map_set, h]
  refine (List.ext_getElem? fun q => ?_).symm
  by_cases hq : j.toNat = q
  · subst hq
    rw [List.getElem?_set_self (by rw [List.length_map]; omega), List.getElem?_map, get_j hkn j0 j1 m0]
    rfl
  · rw [List.getElem?_set_ne hq]
theorem set_vld (t' : S49) (h : vldT t' = true) : vld (l.set j.toNat t') = true := by
  obtain ⟨hv, _⟩ := known_of_eq hkn
  obtain ⟨h1, h2⟩ := vld_of hv
  unfold vld
  rw [Bool.and_eq_true, List.length_set]
  refine ⟨decide_eq_true h1, List.all_eq_true.2 fun t ht => ?_⟩
  rcases List.mem_or_eq_of_mem_set ht with ht | rfl
  · exact h2 t ht
  · exact h
theorem set_known (t' : S49) (h : vldT t' = true) : known (l.set j.toNat t') i = true := by
  obtain ⟨hv, i0, i1⟩ := known_of_eq hkn
  exact known_iff (set_vld hkn j0 j1 m0 t' h) i0 (by rw [List.length_set]; exact i1)
theorem set_rd (t' : S49) : rd_T49 (l.set j.toNat t') i = if i = j then t' else rd_T49 l i := by
  obtain ⟨hv, i0, i1⟩ := known_of_eq hkn
  have a := rd49_at (l.set j.toNat t') i.toNat (by rw [List.length_set]; omega)
  have b := rd49_at l i.toNat (by omega)
  rw [Int.toNat_of_nonneg i0] at a b
  rw [a, b, List.getElem_set]
  by_cases h : i = j
  · rw [if_pos h, if_pos (by omega)]
  · rw [if_neg h, if_neg (by omega)]
theorem set_next (t' : S49) (h3 : t'.f3 = (rd_T49 l j).f3) (h0 : i = j → (rd_T49 l j).f0 ≤ t'.f0) (hw : ∀ w, 0 ≤ w → (rd_T49 l j).f0 * cdiv w (rd_T49 l j).f1 ≤ t'.f0 * cdiv w t'.f1) : ∀ w, 0 ≤ w → nextV l i w ≤ nextV (l.set j.toNat t') i w := by
  intro w w0
  unfold nextV ownV interf
  rw [← block_S (set_f3 hkn j0 j1 m0 t' h3) i, set_rd hkn j0 j1 m0, List.take_set]
  have a := isum_set_le (w := w) (l.take i.toNat) j.toNat t' (fun t ht => by
    have e : t = rd_T49 l j := by
      rw [List.getElem?_take] at ht
      split at ht
      · rw [get_j hkn j0 j1 m0] at ht
        exact (Option.some.inj ht).symm
      · cases ht
    rw [e]
    exact hw w w0)
  by_cases h : i = j
  · rw [if_pos h]
    have := h0 h
    subst h
    omega
  · rw [if_neg h]
    omega
theorem costed_ok : known (costed l j m) i = true ∧ ∀ w, 0 ≤ w → nextV l i w ≤ nextV (costed l j m) i w := by
  obtain ⟨hv, i0, i1⟩ := known_of_eq hkn
  obtain ⟨t1, t2, t3, t4, t5, t6⟩ := task_j hkn j0 j1 m0
  have hT := (vld_of hv).2 _ (rd49_mem j0 j1)
  obtain ⟨_, _, _, _, _, _, k7, k8⟩ := vldT_of hT
  have hc : (rd_T49 l j).f0 ≤ mn ((rd_T49 l j).f0 + m) 1000 ∧ mn ((rd_T49 l j).f0 + m) 1000 ≤ 1000 := by unfold mn; split <;> omega
  have hs : ∀ (ss : List S68) (e : Int), secB (rd_T49 l j).f0 e ss = true → secB (mn ((rd_T49 l j).f0 + m) 1000) e ss = true := by
    intro ss
    induction ss with
    | nil => intro e _; rfl
    | cons s r ih =>
      intro e h
      unfold secB at h ⊢
      rw [Bool.and_eq_true] at h ⊢
      have h1 := of_decide_eq_true h.1
      exact ⟨decide_eq_true (by omega), ih _ h.2⟩
  unfold costed
  refine ⟨set_known hkn j0 j1 m0 _ ?_, set_next hkn j0 j1 m0 _ rfl (fun _ => hc.1) (fun w w0 => Int.mul_le_mul_of_nonneg_right hc.1 (cdiv_nonneg w0 t3))⟩
  have := hs _ _ k8
  simp [vldT, this]
  omega
theorem faster_ok (hji : j < i) : known (faster l j m) i = true ∧ ∀ w, 0 ≤ w → nextV l i w ≤ nextV (faster l j m) i w := by
  obtain ⟨hv, i0, i1⟩ := known_of_eq hkn
  obtain ⟨t1, t2, t3, t4, t5, t6⟩ := task_j hkn j0 j1 m0
  have hT := (vld_of hv).2 _ (rd49_mem j0 j1)
  obtain ⟨_, _, _, _, _, _, k7, k8⟩ := vldT_of hT
  have hp : 1 ≤ mx 1 ((rd_T49 l j).f1 - m) ∧ mx 1 ((rd_T49 l j).f1 - m) ≤ (rd_T49 l j).f1 := by unfold mx; split <;> omega
  have hd : 1 ≤ mn (rd_T49 l j).f2 (mx 1 ((rd_T49 l j).f1 - m)) ∧ mn (rd_T49 l j).f2 (mx 1 ((rd_T49 l j).f1 - m)) ≤ mx 1 ((rd_T49 l j).f1 - m) := by unfold mn; split <;> omega
  unfold faster
  refine ⟨set_known hkn j0 j1 m0 _ ?_, set_next hkn j0 j1 m0 _ rfl (fun h => by omega) (fun w w0 => Int.mul_le_mul_of_nonneg_left (cdiv_anti w0 hp.1 hp.2) (by omega))⟩
  simp [vldT, k8]
  omega
theorem mono_body {k : Nat} (hk : 1100 ≤ k) : ontimelaw44_ResponseMonotone.body k l i j m = some true := by
  unfold ontimelaw44_ResponseMonotone.body
  rw [respV_eq hk hkn]
  simp only [Option.bind_some]
  by_cases h0 : (respV l i).2 = 0
  · rw [if_pos h0]
    obtain ⟨c1, c2⟩ := costed_ok hkn j0 j1 m0
    rw [respV_eq hk c1]
    simp only [Option.bind_some]
    have hc := resp_more hkn c1 c2 h0
    rw [if_pos (by omega)]
    have hb : known (if j < i then faster l j m else l) i = true ∧ ∀ w, 0 ≤ w → nextV l i w ≤ nextV (if j < i then faster l j m else l) i w := by
      by_cases h : j < i
      · rw [if_pos h]; exact faster_ok hkn j0 j1 m0 h
      · rw [if_neg h]; exact ⟨hkn, fun w _ => Int.le_refl _⟩
    rw [respV_eq hk hb.1]
    simp only [Option.bind_some]
    have hd := resp_more hkn hb.1 hb.2 h0
    rw [if_pos (by omega)]
  · rw [if_neg h0]
end
theorem ResponseMonotone {P Q R : Prop} (l : List S49) (a1 a2 a3 : Int) (_ : P) (_ : Q) (_ : R) (w1 : (Lit.int .u8 a1).wf = true) (w2 : (Lit.int .u8 a2).wf = true) (w3 : (Lit.int .u8 a3).wf = true) :
    ∃ k, ontimelaw44_ResponseMonotone.f k l a1 a2 a3 = some true := by
  have h1 := b8 w1
  have h2 := b8 w2
  have h3 := b8 w3
  refine ⟨2000, ?_⟩
  unfold ontimelaw44_ResponseMonotone.f
  rw [if_pos (by omega), awake_eq (by omega)]
  simp only [Option.bind_some]
  rw [if_pos trivial, great_eq (by omega)]
  simp only [Option.bind_some]
  by_cases hg : grt l = true
  · rw [if_pos hg]
  · rw [if_neg hg]
    by_cases hl : (l.length : Int) = 0
    · rw [if_pos hl]
    · rw [if_neg hl, cvalid_eq (by omega)]
      simp only [Option.bind_some]
      by_cases hv : vld l = true
      · rw [if_pos hv, if_pos (vld_of hv)]
        have i0 := Int.emod_nonneg a1 hl
        have i1 := Int.emod_lt_of_pos a1 (show 0 < (l.length : Int) by omega)
        have j0 := Int.emod_nonneg a2 hl
        have j1 := Int.emod_lt_of_pos a2 (show 0 < (l.length : Int) by omega)
        rw [Int.tmod_eq_emod_of_nonneg h1.1, Int.tmod_eq_emod_of_nonneg h2.1]
        exact mono_body (known_iff hv i0 i1) j0 j1 h3.1 (by omega)
      · rw [if_neg hv]
end Go.Proofs.Ytcmifojplgmgkaa.Pure
