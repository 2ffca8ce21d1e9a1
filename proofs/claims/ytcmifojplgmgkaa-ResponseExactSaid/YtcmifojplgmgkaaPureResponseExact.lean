/- The law ResponseExact, without Go: without sections a first job that comes with all others needs exactly its response time. -/
import Derived.Test.YtcmifojplgmgkaaP21
import Derived.Test.YtcmifojplgmgkaaRLaws
import Derived.Test.YtcmifojplgmgkaaCExact
set_option linter.unusedVariables false
set_option linter.unusedSectionVars false
namespace Go.Proofs.Ytcmifojplgmgkaa.Pure
open Go.RowKit Go.Proofs.Ytcmifojplgmgkaa.P Go.Proofs.YtcmifojplgmgkaaW.PrintWords CEv
open Evs (awake_eq great_eq grt grt_of b8 known known_iff resp_yes IsResp nextV cdiv cdiv_le_iff cdiv_nonneg)
def bareS (t : S49) : S49 := ⟨t.f0, t.f1, t.f2, []⟩
/-- The release times of a task: each period, up to a time. -/
def perL (T e : Int) : Nat → Int → List Int
  | 0, _ => []
  | n + 1, x => if x < e then x :: perL T e n (x + T) else []
theorem perL_len (T e : Int) : ∀ (n : Nat) (x : Int), (perL T e n x).length ≤ n
  | 0, _ => Nat.le_refl _
  | n + 1, x => by
    unfold perL
    split
    · have := perL_len T e n (x + T)
      rw [List.length_cons]; omega
    · simp
theorem perL_mem {T e : Int} (hT : 1 ≤ T) : ∀ {n : Nat} {x y : Int}, y ∈ perL T e n x → x ≤ y ∧ y < e
  | 0, _, _, h => by cases h
  | n + 1, x, y, h => by
    unfold perL at h
    by_cases c : x < e
    · rw [if_pos c] at h
      rcases List.mem_cons.1 h with rfl | h
      · exact ⟨Int.le_refl _, c⟩
      · have := perL_mem hT h
        omega
    · rw [if_neg c] at h; cases h
theorem perL_spc {T e : Int} (hT : 1 ≤ T) : ∀ (n : Nat) (x : Int) (o : Option Int), 0 ≤ x → (∀ u, o = some u → T ≤ x - u) → spc T o (perL T e n x) = true
  | 0, x, o, _, _ => by cases o <;> rfl
  | n + 1, x, o, h0, hu => by
    unfold perL
    by_cases c : x < e
    · rw [if_pos c]
      have ih := perL_spc (e := e) hT n (x + T) (some x) (by omega) (fun u hu => by injection hu with hu; omega)
      cases o with
      | none => unfold spc; rw [decide_eq_true h0, ih]; rfl
      | some u => unfold spc; rw [decide_eq_true h0, decide_eq_true (hu u rfl), ih]; rfl
    · rw [if_neg c]; cases o <;> rfl
/-- How many come in a window. -/
theorem perL_cnt {T e : Int} (hT : 1 ≤ T) : ∀ (n : Nat) (x d : Int), 0 ≤ d → x + d ≤ e → d ≤ (n : Int) * T → ((dueL (x + d - 1) (perL T e n x)).length : Int) = cdiv d T
  | 0, x, d, h0, h1, h2 => by
    have hd : d = 0 := by simp at h2; omega
    subst hd
    have : cdiv 0 T = 0 := by
      have := (cdiv_le_iff (w := 0) (p := T) (t := 0) hT).2 (by simp)
      have := cdiv_nonneg (w := 0) (p := T) (Int.le_refl _) hT
      omega
    rw [this]
    rfl
  | n + 1, x, d, h0, h1, h2 => by
    by_cases hd : d = 0
    · subst hd
      have e0 : cdiv 0 T = 0 := by
        have := (cdiv_le_iff (w := 0) (p := T) (t := 0) hT).2 (by simp)
        have := cdiv_nonneg (w := 0) (p := T) (Int.le_refl _) hT
        omega
      rw [e0]
      have : dueL (x + 0 - 1) (perL T e (n + 1) x) = [] := by
        unfold perL
        split
        · unfold dueL
          rw [List.takeWhile_cons_of_neg (by simp; omega)]
        · rfl
      rw [this]; rfl
    · unfold perL
      rw [if_pos (by omega)]
      have hx : dueL (x + d - 1) (x :: perL T e n (x + T)) = x :: dueL (x + d - 1) (perL T e n (x + T)) := by
        unfold dueL
        rw [List.takeWhile_cons_of_pos (by simp; omega)]
      rw [hx, List.length_cons]
      by_cases hdT : d ≤ T
      · have : dueL (x + d - 1) (perL T e n (x + T)) = [] := by
          cases hp : perL T e n (x + T) with
          | nil => rfl
          | cons y r =>
            have := (perL_mem hT (n := n) (x := x + T) (e := e) (y := y) (by rw [hp]; exact List.mem_cons_self)).1
            unfold dueL
            rw [List.takeWhile_cons_of_neg (by simp; omega)]
        rw [this]
        have h3 : cdiv d T ≤ 1 := (cdiv_le_iff hT).2 (by omega)
        have h4 : ¬ cdiv d T ≤ 0 := fun c => by
          have := (cdiv_le_iff (w := d) (p := T) (t := 0) hT).1 c
          simp at this
          omega
        show (((0 : Nat) + 1 : Nat) : Int) = _
        omega
      · have ih := perL_cnt (e := e) hT n (x + T) (d - T) (by omega) (by omega) (by
          have : ((n + 1 : Nat) : Int) * T = (n : Int) * T + T := by rw [Int.natCast_add, Int.add_mul]; simp
          omega)
        rw [show x + T + (d - T) - 1 = x + d - 1 by omega] at ih
        rw [Int.natCast_add, ih]
        have h5 : cdiv d T = cdiv (d - T) T + 1 := by
          unfold cdiv
          rw [show d + T - 1 = (d - T + T - 1) + T by omega, Int.add_ediv_of_dvd_right (Int.dvd_refl T), Int.ediv_self (by omega)]
        omega
def rowsOf (at_ L : Int) (m : List S49) : List (List Int) := m.map fun t => perL t.f1 (at_ + L) 1001 at_
def maxD (m : List S49) (x : Int) : Int := m.foldl (fun x t => mx x t.f2) x
theorem rows_get (at_ L : Int) (m : List S49) (i : Nat) (h : i < (rowsOf at_ L m).length) : (rowsOf at_ L m)[i] = perL (rd_T49 m (i : Int)).f1 (at_ + L) 1001 at_ := by
  have hi : i < m.length := by unfold rowsOf at h; rw [List.length_map] at h; exact h
  have : (rowsOf at_ L m)[i]? = some (perL m[i].f1 (at_ + L) 1001 at_) := by
    unfold rowsOf
    rw [List.getElem?_map, List.getElem?_eq_getElem hi]
    rfl
  rw [List.getElem?_eq_getElem h] at this
  rw [rd49_at m i hi]
  exact Option.some.inj this
/-! The answers -/
section
variable {at_ L : Int} {m : List S49} (hv : vld m = true) (h6 : m.length ≤ 6) (ha : 0 ≤ at_ ∧ at_ ≤ 255) (hL : 0 ≤ L ∧ L ≤ 1000) (hb : ∀ t ∈ m, t.f3 = []) (hD : ∀ t ∈ m, t.f2 ≤ L)
include hv h6 ha hL hb hD
theorem ex_task (t : S49) (ht : t ∈ m) : 1 ≤ t.f0 ∧ 1 ≤ t.f1 ∧ t.f1 ≤ 1000 ∧ 1 ≤ t.f2 ∧ t.f2 ≤ t.f1 := by
  obtain ⟨a, b, c, d, e, f, _⟩ := vldT_of ((vld_of hv).2 t ht)
  exact ⟨a, c, d, e, f⟩
theorem ex_adm : admV m (rowsOf at_ L m) (at_ + L) = 0 := by
  unfold admV
  rw [if_pos ⟨hv, by unfold rowsOf; rw [List.length_map]⟩, if_pos (by omega), if_pos]
  unfold spcAll rowsOf
  refine List.all_eq_true.2 fun x hx => ?_
  obtain ⟨q, hq⟩ := List.mem_iff_getElem?.1 hx
  rw [List.getElem?_zip_eq_some] at hq
  obtain ⟨h1, h2⟩ := hq
  rw [List.getElem?_map, h1] at h2
  have h3 : perL x.1.f1 (at_ + L) 1001 at_ = x.2 := Option.some.inj h2
  rw [← h3]
  exact perL_spc (ex_task hv h6 ha hL hb hD x.1 (List.mem_of_getElem? h1)).2.1 1001 at_ none ha.1 (fun u hu => by cases hu)
theorem ex_rows : ∀ r ∈ rowsOf at_ L m, r.length ≤ 2000 ∧ W64 r := fun r hr => by
  obtain ⟨t, ht, rfl⟩ := List.mem_map.1 hr
  refine ⟨by have := perL_len t.f1 (at_ + L) 1001 at_; omega, fun x hx => ?_⟩
  have := perL_mem (ex_task hv h6 ha hL hb hD t ht).2.1 hx
  omega
theorem ex_sync : Sync m (rowsOf at_ L m) at_ L := by
  have hA := (Adm.of (ex_adm hv h6 ha hL hb hD)).1
  have hget : ∀ i (h : i < (rowsOf at_ L m).length), (rowsOf at_ L m)[i] = perL (rd_T49 m (i : Int)).f1 (at_ + L) 1001 at_ ∧ rd_T49 m (i : Int) ∈ m := fun i h => by
    have hi : i < m.length := by unfold rowsOf at h; rw [List.length_map] at h; exact h
    have e := rd49_at m i hi
    exact ⟨rows_get at_ L m i h, by rw [e]; exact List.getElem_mem _⟩
  refine ⟨hA, fun t h0 h1 => hb _ (rd49_mem h0 h1), fun i h x hx => ?_, fun i h d h1 h2 => ?_⟩
  · obtain ⟨e, hm⟩ := hget i h
    rw [e] at hx
    exact (perL_mem (ex_task hv h6 ha hL hb hD _ hm).2.1 hx).1
  · obtain ⟨e, hm⟩ := hget i h
    have hT := (ex_task hv h6 ha hL hb hD _ hm).2.1
    rw [e]
    refine perL_cnt hT 1001 at_ d (by omega) (by omega) ?_
    have : (1001 : Int) * 1 ≤ 1001 * (rd_T49 m (i : Int)).f1 := Int.mul_le_mul_of_nonneg_left hT (by omega)
    show d ≤ (1001 : Int) * _
    omega
/-- The first job of a task that is not late. -/
theorem ex_main {i : Nat} (hi : i < m.length) {r : Int} (h1 : 1 ≤ r) (h2 : r ≤ (rd_T49 m (i : Int)).f2) (hfix : nextV m (i : Int) r = r) (hle : ∀ w, 0 ≤ w → nextV m (i : Int) w = w → r ≤ w) :
    (∃ j ∈ simV m (rowsOf at_ L m) (at_ + L), j.f0 = (i : Int) ∧ j.f1 = at_) ∧ ∀ j ∈ simV m (rowsOf at_ L m) (at_ + L), j.f0 = (i : Int) → j.f1 = at_ → j.f3 - j.f1 = r := by
  have hS := ex_sync hv h6 ha hL hb hD
  have hA := hS.adm
  have hmem : rd_T49 m (i : Int) ∈ m := rd49_mem (by omega) (by omega)
  have htk := ex_task hv h6 ha hL hb hD _ hmem
  have hDL := hD _ hmem
  have hlr : i < (rowsOf at_ L m).length := by unfold rowsOf; rw [List.length_map]; exact hi
  have hrow : (rowsOf at_ L m)[i] = perL (rd_T49 m (i : Int)).f1 (at_ + L) 1001 at_ := rows_get at_ L m i hlr
  have hx : at_ ∈ (rowsOf at_ L m)[i] := by
    rw [hrow]
    unfold perL
    rw [if_pos (by omega)]
    exact List.mem_cons_self
  obtain ⟨rn, hrn⟩ : ∃ rn : Nat, r = rn := ⟨r.toNat, by omega⟩
  obtain ⟨an, han⟩ : ∃ an : Nat, at_ = an := ⟨at_.toNat, by omega⟩
  have hsafe := safe hA hi (r := rn) (by omega) (by omega) (by rw [← hrn]; exact hfix) (x := at_) (X := an) han
  obtain ⟨j, hj, e1, e2⟩ := ended hA hlr hx (t := an + rn) (by omega) hsafe
  obtain ⟨more, hmore⟩ := out_pre m (rowsOf at_ L m) (an + rn) ((at_ + L).toNat - (an + rn))
  rw [show an + rn + ((at_ + L).toNat - (an + rn)) = (at_ + L).toNat by omega] at hmore
  have hsim : simV m (rowsOf at_ L m) (at_ + L) = (stAt m (rowsOf at_ L m) (an + rn)).out ++ more := by rw [simV_st]; exact hmore
  have hE := ex_at hS (at_ + L).toNat (by omega) ha.1
  rw [hsim]
  refine ⟨⟨j, List.mem_append_left _ hj, e1, e2⟩, fun j' hj' f1 f2 => ?_⟩
  have hjo : j' ∈ (stAt m (rowsOf at_ L m) (at_ + L).toNat).out := by rw [hmore]; exact hj'
  have hlow := hE.low j' hjo f2
  have hok := hE.ok j' hjo
  have hup : j'.f3 ≤ at_ + r := by
    rcases List.mem_append.1 hj' with h | h
    · have := (ex_at hS (an + rn) (by omega) ha.1).ok j' h
      omega
    · have := one_job hA hlr hmore hj h e1 f1
      omega
  rw [f1] at hlow
  have hfb : ∀ (n : Nat) (x : Int), x.toNat = n → 0 ≤ x → nextV m (i : Int) x ≤ x → ∃ w, 0 ≤ w ∧ w ≤ x ∧ nextV m (i : Int) w = w := by
    have hkn := known_iff hv (i := (i : Int)) (by omega) (by omega)
    intro n
    induction n using Nat.strongRecOn with
    | ind n ih =>
      intro x hx x0 hle
      by_cases he : nextV m (i : Int) x = x
      · exact ⟨x, x0, Int.le_refl _, he⟩
      · have h1 := Evs.nextV_ge hkn x0
        have h2 := Evs.ownV_bd hkn
        obtain ⟨w, w0, w1, w2⟩ := ih (nextV m (i : Int) x).toNat (by omega) (nextV m (i : Int) x) rfl (by omega) (Evs.nextV_mono hkn hle)
        exact ⟨w, w0, by omega, w2⟩
  have hd0 : 0 ≤ j'.f3 - at_ := by
    have := hok.2.2.2
    omega
  obtain ⟨w, w0, w1, w2⟩ := hfb _ (j'.f3 - at_) rfl hd0 hlow
  have := hle w w0 w2
  omega
end
/-! The law's loops -/
theorem rd34_at' (l : List S34) (i : Nat) (h : i < l.length) : rd_T34 l (i : Int) = l[i] := by
  unfold rd_T34
  rw [Int.toNat_natCast, List.getD_eq_getElem?_getD, List.getElem?_eq_getElem h]
  rfl
theorem ex_l4 (a1 : Int) (m : List S49) (jobs : List S34) (i : Nat) (r : Int) (hl : jobs.length ≤ 100000) (wa : wrap64 a1 = a1) (hr : 0 ≤ r ∧ r ≤ 100000) (hj : ∀ j ∈ jobs, j.f0 = (i : Int) → j.f1 = a1 → j.f3 - j.f1 = r) {K : Nat} {res : Option Bool}
    (hnext : ∀ k, K ≤ k → ontimelaw44_ResponseExact.l3 k a1 m jobs (m.length : Int) (wrap64 ((i : Int) + 1)) = res) :
    ∀ (n q k : Nat) (x : Bool), q + n = jobs.length → (x = true ∨ ∃ j ∈ jobs.drop q, j.f0 = (i : Int) ∧ j.f1 = a1) → K + 2 * n + 1 ≤ k → ontimelaw44_ResponseExact.l4 k a1 m jobs (i : Int) r x (m.length : Int) (i : Int) jobs (jobs.length : Int) (q : Int) = res := by
  intro n
  induction n with
  | zero =>
    intro q k x hq hx hk
    obtain ⟨k, rfl⟩ : ∃ z, k = z + 1 := ⟨k - 1, by omega⟩
    rw [List.drop_of_length_le (by omega)] at hx
    have hx' : x = true := by
      rcases hx with h | ⟨j, hj, _⟩
      · exact h
      · cases hj
    simp only [ontimelaw44_ResponseExact.l4]
    rw [if_neg (by omega), if_pos hx']
    exact hnext k (by omega)
  | succ n ih =>
    intro q k x hq hx hk
    obtain ⟨k, rfl⟩ : ∃ z, k = (z + 1) + 1 := ⟨k - 2, by omega⟩
    have hql : q < jobs.length := by omega
    rw [List.drop_eq_getElem_cons hql] at hx
    have hjq := hj jobs[q] (List.getElem_mem _)
    simp only [ontimelaw44_ResponseExact.l4]
    rw [if_pos (by omega), if_pos (by omega), if_pos (by omega), rd34_at' jobs q hql]
    generalize jobs[q] = j at *
    have hq1 : wrap64 ((q : Int) + 1) = ((q + 1 : Nat) : Int) := by rw [wrap64_of (by omega) (by omega)]; omega
    by_cases c : j.f0 = (i : Int)
    · rw [if_pos c, wa]
      by_cases d : j.f1 = a1
      · rw [show (j.f1 == a1) = true from beq_iff_eq.2 d]
        have e := hjq c d
        simp only [ontimelaw44_ResponseExact.j6]
        rw [if_pos trivial, if_pos (by rw [wrap64_of (by omega) (by omega)]; exact e), hq1]
        exact ih (q + 1) k true (by omega) (.inl rfl) (by omega)
      · rw [show (j.f1 == a1) = false from beq_eq_false_iff_ne.2 d]
        simp only [ontimelaw44_ResponseExact.j6]
        rw [if_neg (by simp), hq1]
        refine ih (q + 1) k x (by omega) ?_ (by omega)
        rcases hx with h | ⟨y, hy, y1, y2⟩
        · exact .inl h
        · rcases List.mem_cons.1 hy with rfl | hy
          · exact absurd y2 d
          · exact .inr ⟨y, hy, y1, y2⟩
    · rw [if_neg c]
      simp only [ontimelaw44_ResponseExact.j6]
      rw [if_neg (by simp), hq1]
      refine ih (q + 1) k x (by omega) ?_ (by omega)
      rcases hx with h | ⟨y, hy, y1, y2⟩
      · exact .inl h
      · rcases List.mem_cons.1 hy with rfl | hy
        · exact absurd y1 c
        · exact .inr ⟨y, hy, y1, y2⟩
section
variable {at_ L : Int} {m : List S49} (hv : vld m = true) (h6 : m.length ≤ 6) (ha : 0 ≤ at_ ∧ at_ ≤ 255) (hL : 0 ≤ L ∧ L ≤ 1000) (hb : ∀ t ∈ m, t.f3 = []) (hD : ∀ t ∈ m, t.f2 ≤ L)
include hv h6 ha hL hb hD
theorem ex_l3 (jobs : List S34) (hjobs : jobs = simV m (rowsOf at_ L m) (at_ + L)) (hl : jobs.length ≤ 2000) : ∀ (n i k : Nat), i + n = m.length → 6000 * n + 2000 ≤ k → ontimelaw44_ResponseExact.l3 k at_ m jobs (m.length : Int) (i : Int) = some true := by
  intro n
  induction n with
  | zero =>
    intro i k hi hk
    obtain ⟨k, rfl⟩ : ∃ z, k = z + 1 := ⟨k - 1, by omega⟩
    simp only [ontimelaw44_ResponseExact.l3]
    rw [if_neg (by omega)]
  | succ n ih =>
    intro i k hi hk
    obtain ⟨k, rfl⟩ : ∃ z, k = z + 1 := ⟨k - 1, by omega⟩
    have him : i < m.length := by omega
    have hkn := known_iff hv (i := (i : Int)) (by omega) (by omega)
    obtain ⟨res, hres, hI⟩ := resp_yes hkn (k := k) (by omega)
    have hi1 : wrap64 ((i : Int) + 1) = ((i + 1 : Nat) : Int) := by rw [wrap64_of (by omega) (by omega)]; omega
    simp only [ontimelaw44_ResponseExact.l3]
    rw [if_pos (by omega), hres]
    simp only [Option.bind_some]
    rcases hI with ⟨g1, g2, g3, g4, g5⟩ | ⟨g1, _⟩
    · rw [if_pos g1]
      obtain ⟨e1, e2⟩ := ex_main hv h6 ha hL hb hD him g2 g3 g4 g5
      rw [← hjobs] at e1 e2
      have hmem : rd_T49 m (i : Int) ∈ m := rd49_mem (by omega) (by omega)
      have := hD _ hmem
      have := ex_l4 at_ m jobs i res.1 (by omega) (wrap64_of (by omega) (by omega)) (by omega) (fun j hj c d => e2 j hj c d) (K := 6000 * n + 2000) (res := some true) (fun k' hk' => by rw [hi1]; exact ih (i + 1) k' (by omega) hk')
        jobs.length 0 k false (by omega) (.inr (by rw [List.drop_zero]; exact e1)) (by omega)
      rw [show ((0 : Nat) : Int) = 0 from rfl] at this
      exact this
    · have h2 : res.2 = 21 := by rw [g1]
      rw [if_neg (by rw [h2]; decide), hi1]
      exact ih (i + 1) k (by omega) (by omega)
/-- The rows are filled, one behind the other. -/
theorem ex_l2 (i : Nat) (him : i < m.length) (pre post : List (List Int)) (hpre : pre.length = i) (row : List Int) (hrow : row.length ≤ 1001) (t : S49) (ht : t ∈ m) {K : Nat} {res : Option Bool}
    (hnext : ∀ k, K ≤ k → ontimelaw44_ResponseExact.l1 k at_ m (pre ++ row :: post) L m (m.length : Int) (wrap64 ((i : Int) + 1)) = res) :
    ∀ (n k : Nat) (x : Int) (acc : List Int), at_ ≤ x → at_ + L ≤ x + n → acc ++ perL t.f1 (at_ + L) n x = row → K + n + 1 ≤ k →
      ontimelaw44_ResponseExact.l2 k at_ m (pre ++ acc :: post) L (i : Int) x m (m.length : Int) (i : Int) t.f0 t.f1 t.f2 t.f3 = res := by
  obtain ⟨_, hT, hT2, _, _⟩ := ex_task hv h6 ha hL hb hD t ht
  have hwa : wrap64 at_ = at_ := wrap64_of (by omega) (by omega)
  have hwe : wrap64 (at_ + L) = at_ + L := wrap64_of (by omega) (by omega)
  intro n
  induction n with
  | zero =>
    intro k x acc hx he hacc hk
    obtain ⟨k, rfl⟩ : ∃ z, k = z + 1 := ⟨k - 1, by omega⟩
    simp only [ontimelaw44_ResponseExact.l2]
    rw [hwa, hwe, if_neg (by omega)]
    unfold perL at hacc
    rw [List.append_nil] at hacc
    rw [hacc]
    exact hnext k (by omega)
  | succ n ih =>
    intro k x acc hx he hacc hk
    obtain ⟨k, rfl⟩ : ∃ z, k = z + 1 := ⟨k - 1, by omega⟩
    simp only [ontimelaw44_ResponseExact.l2]
    rw [hwa, hwe]
    unfold perL at hacc
    by_cases c : x < at_ + L
    · rw [if_pos c] at hacc ⊢
      have hlen : acc.length ≤ 1001 := by rw [← hacc, List.length_append] at hrow; omega
      have hrd : rd_L5 (pre ++ acc :: post) (i : Int) = acc := by
        have hlt : i < (pre ++ acc :: post).length := by rw [List.length_append, List.length_cons]; omega
        rw [rdL5_at _ i hlt, List.getElem_append_right (by omega)]
        simp [hpre]
      rw [if_pos (by omega), if_pos (by rw [List.length_append, List.length_cons]; omega), hrd, if_pos (by omega), wrap64_of (x := x + t.f1) (by omega) (by omega), Int.toNat_natCast]
      have hset : (pre ++ acc :: post).set i (acc ++ [x]) = pre ++ (acc ++ [x]) :: post := by
        rw [List.set_append_right _ _ (by omega), hpre, Nat.sub_self, List.set_cons_zero]
      rw [hset]
      exact ih k (x + t.f1) (acc ++ [x]) (by omega) (by omega) (by rw [List.append_assoc]; exact hacc) (by omega)
    · rw [if_neg c] at hacc ⊢
      rw [List.append_nil] at hacc
      rw [hacc]
      exact hnext k (by omega)
theorem ex_l1 : ∀ (n i k : Nat), i + n = m.length → 1100 * n + 60000 ≤ k → ontimelaw44_ResponseExact.l1 k at_ m ((rowsOf at_ L m).take i ++ List.replicate n []) L m (m.length : Int) (i : Int) = some true := by
  have hlr : (rowsOf at_ L m).length = m.length := by unfold rowsOf; rw [List.length_map]
  intro n
  induction n with
  | zero =>
    intro i k hi hk
    obtain ⟨k, rfl⟩ : ∃ z, k = z + 1 := ⟨k - 1, by omega⟩
    have hwa : wrap64 at_ = at_ := wrap64_of (by omega) (by omega)
    have hwe : wrap64 (at_ + L) = at_ + L := wrap64_of (by omega) (by omega)
    simp only [ontimelaw44_ResponseExact.l1]
    rw [if_neg (by omega), List.replicate_zero, List.append_nil, List.take_of_length_le (by omega), hwa, hwe, sim_eq (by omega) (ex_rows hv h6 ha hL hb hD), ex_adm hv h6 ha hL hb hD, if_pos rfl]
    simp only [Option.bind_some]
    rw [if_pos trivial]
    have hlen : (simV m (rowsOf at_ L m) (at_ + L)).length ≤ 2000 := by
      rw [simV_st]
      have : ∀ t : Nat, (stAt m (rowsOf at_ L m) t).out.length ≤ t := by
        intro t
        induction t with
        | zero => exact Nat.le_refl _
        | succ t ih =>
          have e : stAt m (rowsOf at_ L m) (t + 1) = stepV m (rowsOf at_ L m) (t : Int) (stAt m (rowsOf at_ L m) t) := rfl
          rw [e]
          rcases step_cases m (rowsOf at_ L m) (t : Int) (stAt m (rowsOf at_ L m) t) with ⟨_, hs⟩ | ⟨pre, p, post, _, _, ⟨_, hs⟩ | ⟨_, hs⟩⟩
          · rw [hs]; show (stAt m (rowsOf at_ L m) t).out.length ≤ t + 1; omega
          · rw [hs]; show ((stAt m (rowsOf at_ L m) t).out ++ [_]).length ≤ t + 1; rw [List.length_append]; simp; omega
          · rw [hs]; show (stAt m (rowsOf at_ L m) t).out.length ≤ t + 1; omega
      have := this (at_ + L).toNat
      omega
    have := ex_l3 hv h6 ha hL hb hD _ rfl hlen m.length 0 k (by omega) (by omega)
    rw [show ((0 : Nat) : Int) = 0 from rfl] at this
    exact this
  | succ n ih =>
    intro i k hi hk
    obtain ⟨k, rfl⟩ : ∃ z, k = z + 1 := ⟨k - 1, by omega⟩
    have him : i < m.length := by omega
    have hmem : rd_T49 m (i : Int) ∈ m := rd49_mem (by omega) (by omega)
    have hi1 : wrap64 ((i : Int) + 1) = ((i + 1 : Nat) : Int) := by rw [wrap64_of (by omega) (by omega)]; omega
    have hwa : wrap64 at_ = at_ := wrap64_of (by omega) (by omega)
    have hg := rows_get at_ L m i (by omega)
    have hT := (ex_task hv h6 ha hL hb hD _ hmem).2.1
    simp only [ontimelaw44_ResponseExact.l1]
    rw [if_pos (by omega), if_pos (by omega), if_pos (by omega), hwa, List.replicate_succ]
    refine ex_l2 hv h6 ha hL hb hD i him ((rowsOf at_ L m).take i) (List.replicate n []) (by rw [List.length_take]; omega) (perL (rd_T49 m (i : Int)).f1 (at_ + L) 1001 at_) (perL_len _ _ _ _) (rd_T49 m (i : Int)) hmem (K := 1100 * n + 60000) (fun k' hk' => ?_) 1001 k at_ [] (Int.le_refl _) (by omega) (List.nil_append _) (by omega)
    have := ih (i + 1) k' (by omega) hk'
    rw [List.take_succ_eq_append_getElem (by omega), hg, List.append_assoc] at this
    rw [hi1]
    exact this
end
theorem maxD_ge : ∀ (l : List S49) (x : Int), x ≤ maxD l x ∧ ∀ t ∈ l, t.f2 ≤ maxD l x
  | [], x => ⟨Int.le_refl _, fun t ht => by cases ht⟩
  | a :: r, x => by
    have e : maxD (a :: r) x = maxD r (mx x a.f2) := rfl
    obtain ⟨h1, h2⟩ := maxD_ge r (mx x a.f2)
    have := mx_ge x a.f2
    rw [e]
    refine ⟨by omega, fun t ht => ?_⟩
    rcases List.mem_cons.1 ht with rfl | ht
    · omega
    · exact h2 t ht
theorem maxD_le (b : Int) : ∀ (l : List S49) (x : Int), x ≤ b → (∀ t ∈ l, t.f2 ≤ b) → maxD l x ≤ b
  | [], x, h, _ => h
  | a :: r, x, h, hl => by
    have e : maxD (a :: r) x = maxD r (mx x a.f2) := rfl
    rw [e]
    refine maxD_le b r _ ?_ (fun t ht => hl t (List.mem_cons_of_mem _ ht))
    have := hl a List.mem_cons_self
    unfold mx
    split <;> omega
theorem ex_l0 {at_ : Int} {l : List S49} (h6 : l.length ≤ 6) {K : Nat} {res : Option Bool} (R : List (List Int))
    (hnext : ∀ k, K ≤ k → ontimelaw44_ResponseExact.l1 k at_ (l.map bareS) R (maxD l 0) (l.map bareS) (((l.map bareS).length : Nat) : Int) 0 = res) :
    ∀ (n i k : Nat) (x : Int), i + n = l.length → maxD (l.drop i) x = maxD l 0 → K + n + 1 ≤ k →
      ontimelaw44_ResponseExact.l0 k at_ ((l.take i).map bareS ++ List.replicate n z49) R x l (l.length : Int) (i : Int) = res := by
  intro n
  induction n with
  | zero =>
    intro i k x hi hx hk
    obtain ⟨k, rfl⟩ : ∃ z, k = z + 1 := ⟨k - 1, by omega⟩
    rw [List.drop_of_length_le (by omega)] at hx
    have hx' : x = maxD l 0 := hx
    simp only [ontimelaw44_ResponseExact.l0]
    rw [if_neg (by omega), List.replicate_zero, List.append_nil, List.take_of_length_le (by omega), hx']
    exact hnext k (by omega)
  | succ n ih =>
    intro i k x hi hx hk
    obtain ⟨k, rfl⟩ : ∃ z, k = z + 1 := ⟨k - 1, by omega⟩
    have hil : i < l.length := by omega
    rw [List.drop_eq_getElem_cons hil] at hx
    have hi1 : wrap64 ((i : Int) + 1) = ((i + 1 : Nat) : Int) := by rw [wrap64_of (by omega) (by omega)]; omega
    have hlen : ((l.take i).map bareS).length = i := by rw [List.length_map, List.length_take]; omega
    simp only [ontimelaw44_ResponseExact.l0]
    rw [if_pos (by omega), if_pos (by omega), if_pos (by omega), if_pos (by rw [List.length_append, hlen, List.length_replicate]; omega), hi1, rd49_at l i hil, Int.toNat_natCast, List.replicate_succ, List.set_append_right _ _ (by omega), hlen, Nat.sub_self, List.set_cons_zero]
    have := ih (i + 1) k (mx x l[i].f2) (by omega) hx (by omega)
    rw [List.take_succ_eq_append_getElem hil, List.map_append, List.append_assoc] at this
    exact this
theorem vld_bare {l : List S49} (h : vld l = true) : vld (l.map bareS) = true := by
  obtain ⟨h1, h2⟩ := vld_of h
  unfold vld
  rw [Bool.and_eq_true]
  refine ⟨decide_eq_true (by rw [List.length_map]; omega), List.all_eq_true.2 fun t ht => ?_⟩
  obtain ⟨y, hy, rfl⟩ := List.mem_map.1 ht
  obtain ⟨v1, v2, v3, v4, v5, v6, v7, _⟩ := vldT_of (h2 y hy)
  unfold vldT
  rw [Bool.and_eq_true]
  exact ⟨decide_eq_true ⟨v1, v2, v3, v4, v5, v6, by show ([] : List S68).length ≤ 8; simp⟩, rfl⟩
theorem exact_true {k : Nat} (hk : 1 ≤ k) (l : List S49) (a : Int) : ontimelaw44_ResponseExact.j0 k l a true = some true := by
  obtain ⟨k, rfl⟩ : ∃ z, k = z + 1 := ⟨k - 1, by omega⟩
  simp only [ontimelaw44_ResponseExact.j0]
  rw [if_pos trivial]
theorem exact_false {k : Nat} (hk : 80000 ≤ k) {l : List S49} {a : Int} (hv : vld l = true) (h6 : l.length ≤ 6) (ha : 0 ≤ a ∧ a ≤ 255) : ontimelaw44_ResponseExact.j0 k l a false = some true := by
  obtain ⟨k, rfl⟩ : ∃ z, k = z + 1 := ⟨k - 1, by omega⟩
  simp only [ontimelaw44_ResponseExact.j0]
  rw [if_neg (by simp), if_pos (by omega), if_pos (by omega), if_pos (by omega), Int.toNat_natCast]
  have hm := maxD_ge l 0
  have hD1 : maxD l 0 ≤ 1000 := maxD_le 1000 l 0 (by omega) (fun t ht => by
    obtain ⟨_, _, _, d, _, f, _⟩ := vldT_of ((vld_of hv).2 t ht)
    omega)
  have hlm : (l.map bareS).length = l.length := List.length_map _
  have h1 := fun k' (hk' : 70000 ≤ k') => ex_l1 (at_ := a) (L := maxD l 0) (m := l.map bareS) (vld_bare hv) (by rw [hlm]; exact h6) ha ⟨hm.1, hD1⟩ (fun t ht => by obtain ⟨y, _, rfl⟩ := List.mem_map.1 ht; rfl) (fun t ht => by
    obtain ⟨y, hy, rfl⟩ := List.mem_map.1 ht
    exact hm.2 y hy) l.length 0 k' (by rw [hlm]; omega) (by omega)
  have := ex_l0 (at_ := a) h6 (K := 70000) (res := some true) (List.replicate l.length []) (fun k' hk' => by
    have := h1 k' hk'
    rw [List.take_zero, List.nil_append, show ((0 : Nat) : Int) = 0 from rfl] at this
    exact this) l.length 0 k 0 (by omega) (by rw [List.drop_zero]) (by omega)
  rw [List.take_zero, List.map_nil, List.nil_append, show ((0 : Nat) : Int) = 0 from rfl] at this
  exact this
theorem ResponseExact {P Q R : Prop} (l : List S49) (a : Int) (_ : P) (_ : Q) (_ : R) (w1 : (Lit.int .u8 a).wf = true) : ∃ k, ontimelaw44_ResponseExact.f k l a = some true := by
  obtain ⟨k, hk⟩ : ∃ k : Nat, 90000 ≤ k := ⟨90000, Nat.le_refl _⟩
  refine ⟨k, ?_⟩
  unfold ontimelaw44_ResponseExact.f
  rw [awake_eq (by omega)]
  simp only [Option.bind_some]
  rw [if_pos trivial, great_eq (by omega)]
  simp only [Option.bind_some]
  by_cases hg : grt l = true
  · rw [if_pos hg]
    exact exact_true (by omega) l a
  · rw [if_neg hg]
    by_cases h6 : (l.length : Int) > 6
    · rw [if_pos h6]
      exact exact_true (by omega) l a
    · rw [if_neg h6, cvalid_eq (by omega)]
      simp only [Option.bind_some]
      cases hv : vld l with
      | false => exact exact_true (by omega) l a
      | true => exact exact_false (by omega) hv (by omega) (b8 w1)
end Go.Proofs.Ytcmifojplgmgkaa.Pure
