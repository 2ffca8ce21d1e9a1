/- The law ResponseSafe, without Go. -/
import Derived.Test.YtcmifojplgmgkaaP18
import Derived.Test.YtcmifojplgmgkaaRLaws
import Derived.Test.YtcmifojplgmgkaaCExact
set_option linter.unusedVariables false
set_option linter.unusedSectionVars false
namespace Go.Proofs.Ytcmifojplgmgkaa.Pure
open Go.RowKit Go.Proofs.Ytcmifojplgmgkaa.P Go.Proofs.YtcmifojplgmgkaaW.PrintWords CEv
open Evs (awake_eq great_eq grt grt_of b8 known known_iff resp_yes IsResp nextV)
/-! The releases -/
/-- What is added to the period. -/
def lag (D : List Int) (i c : Int) : Int := if (D.length : Int) > 0 then Int.tmod (wrap64 (rd D (Int.tmod (wrap64 ((wrap64 (i * 7)) + c)) (D.length : Int)))) 8 else 0
def relL (D : List Int) (T i : Int) : Nat → Int → Int → List Int
  | 0, _, _ => []
  | n + 1, c, x => if x < 400 then x :: relL D T i n (c + 1) (x + T + lag D i c) else []
theorem rd_bytes {D : List Int} (hD : ∀ x ∈ D, 0 ≤ x ∧ x ≤ 255) (q : Int) : 0 ≤ rd D q ∧ rd D q ≤ 255 := by
  unfold rd
  rw [List.getD_eq_getElem?_getD]
  cases h : D[q.toNat]? with
  | none => decide
  | some x => exact hD x (List.mem_of_getElem? h)
theorem lag_bd {D : List Int} (hD : ∀ x ∈ D, 0 ≤ x ∧ x ≤ 255) (i c : Int) : 0 ≤ lag D i c ∧ lag D i c ≤ 7 := by
  unfold lag
  split
  · obtain ⟨a, b⟩ := rd_bytes hD (Int.tmod (wrap64 ((wrap64 (i * 7)) + c)) (D.length : Int))
    generalize rd D _ = y at a b
    rw [wrap64_of (by omega) (by omega), Int.tmod_eq_emod_of_nonneg a]
    omega
  · omega
theorem relL_bd {D : List Int} (hD : ∀ x ∈ D, 0 ≤ x ∧ x ≤ 255) {T : Int} (hT : 1 ≤ T) (i : Int) : ∀ (n : Nat) (c x y : Int), y ∈ relL D T i n c x → x ≤ y ∧ y < 400
  | 0, _, _, _, h => by cases h
  | n + 1, c, x, y, h => by
    unfold relL at h
    by_cases hx : x < 400
    · rw [if_pos hx] at h
      rcases List.mem_cons.1 h with rfl | h
      · exact ⟨Int.le_refl _, hx⟩
      · have := relL_bd hD hT i n _ _ _ h
        have := lag_bd hD i c
        omega
    · rw [if_neg hx] at h; cases h
theorem relL_len (D : List Int) (T i : Int) : ∀ (n : Nat) (c x : Int), (relL D T i n c x).length ≤ n
  | 0, _, _ => Nat.le_refl _
  | n + 1, c, x => by
    unfold relL
    split
    · have := relL_len D T i n (c + 1) (x + T + lag D i c)
      rw [List.length_cons]; omega
    · simp
theorem relL_spc {D : List Int} (hD : ∀ x ∈ D, 0 ≤ x ∧ x ≤ 255) {T : Int} (hT : 1 ≤ T) (i : Int) : ∀ (n : Nat) (c x : Int) (o : Option Int), 0 ≤ x → (∀ u, o = some u → T ≤ x - u) → spc T o (relL D T i n c x) = true
  | 0, c, x, o, _, _ => by cases o <;> rfl
  | n + 1, c, x, o, h0, hu => by
    unfold relL
    have hl := lag_bd hD i c
    by_cases hx : x < 400
    · rw [if_pos hx]
      have ih := relL_spc hD hT i n (c + 1) (x + T + lag D i c) (some x) (by omega) (fun u hu => by injection hu with hu; omega)
      cases o with
      | none => unfold spc; rw [decide_eq_true h0, ih]; rfl
      | some u => unfold spc; rw [decide_eq_true h0, decide_eq_true (hu u rfl), ih]; rfl
    · rw [if_neg hx]; cases o <;> rfl
section
variable {F D : List Int} {l : List S49} (hF : ∀ x ∈ F, 0 ≤ x ∧ x ≤ 255) (hD : ∀ x ∈ D, 0 ≤ x ∧ x ≤ 255) (hDl : D.length ≤ 100) (hv : vld l = true)
include hD hDl
theorem rels_l1 (i : Nat) (hi : i ≤ 20) {T : Int} (hT : 1 ≤ T) (hT2 : T ≤ 1000) (N f0 f2 : Int) (f3 : List S68) (res : Option (List (List Int))) : ∀ (n k0 : Nat) (c x : Int) (rows : List (List Int)), c + n = 12 → 0 ≤ c → 0 ≤ x → x ≤ 3000 → (hr : i < rows.length) → rows[i].length ≤ 100 + c.toNat →
    (∀ q, k0 ≤ q → ontimelaw44_releases.l0 q F D (rows.set i (rows[i] ++ relL D T i n c x)) l N ((i : Int) + 1) = res) → ∀ K, k0 + 2 * n + 2 ≤ K → ontimelaw44_releases.l1 K F D rows (i : Int) x c l N (i : Int) f0 T f2 f3 = res := by
  intro n
  induction n with
  | zero =>
    intro k0 c x rows hc c0 x0 x1 hr hrl hq K hK
    obtain ⟨K, rfl⟩ : ∃ m, K = m + 2 := ⟨K - 2, by omega⟩
    have h := hq K (by omega)
    unfold relL at h
    rw [List.append_nil, List.set_getElem_self] at h
    simp only [ontimelaw44_releases.l1]
    rw [if_neg (by omega)]
    simp only [ontimelaw44_releases.j3]
    rw [if_neg (by simp), wrap64_of (x := (i : Int) + 1) (by omega) (by omega)]
    exact h
  | succ n ih =>
    intro k0 c x rows hc c0 x0 x1 hr hrl hq K hK
    obtain ⟨K, rfl⟩ : ∃ m, K = m + 2 := ⟨K - 2, by omega⟩
    simp only [ontimelaw44_releases.l1]
    rw [if_pos (by omega)]
    simp only [ontimelaw44_releases.j3]
    unfold relL at hq
    by_cases hx : x < 400
    · rw [if_pos hx] at hq
      rw [decide_eq_true hx, if_pos rfl, if_pos (by omega), if_pos (by omega), rdL5_at rows i hr, if_pos (by omega)]
      simp only [Option.bind_some, Int.toNat_natCast]
      have hl := lag_bd hD (i : Int) c
      have step : ontimelaw44_releases.l1 K F D (rows.set i (rows[i] ++ [x])) (i : Int) (x + T + lag D i c) (c + 1) l N (i : Int) f0 T f2 f3 = res := by
        refine ih k0 (c + 1) (x + T + lag D i c) (rows.set i (rows[i] ++ [x])) (by omega) (by omega) (by omega) (by omega) (by rw [List.length_set]; exact hr) (by rw [List.getElem_set_self, List.length_append, List.length_singleton]; omega) (fun q hq' => ?_) K (by omega)
        have h := hq q hq'
        rw [List.getElem_set_self, List.set_set, List.append_assoc]
        exact h
      have e1 : wrap64 (c + 1) = c + 1 := wrap64_of (by omega) (by omega)
      have e2 : wrap64 (x + T) = x + T := wrap64_of (by omega) (by omega)
      rw [e1, e2]
      by_cases hd : (D.length : Int) > 0
      · have e3 : wrap64 ((i : Int) * 7) = (i : Int) * 7 := wrap64_of (by omega) (by omega)
        have e4 : wrap64 ((i : Int) * 7 + c) = (i : Int) * 7 + c := wrap64_of (by omega) (by omega)
        have e5 : lag D i c = Int.tmod (wrap64 (rd D (Int.tmod (wrap64 ((wrap64 ((i : Int) * 7)) + c)) (D.length : Int)))) 8 := by unfold lag; rw [if_pos hd]
        have e6 : 0 ≤ Int.tmod ((i : Int) * 7 + c) (D.length : Int) ∧ Int.tmod ((i : Int) * 7 + c) (D.length : Int) < (D.length : Int) := by
          rw [Int.tmod_eq_emod_of_nonneg (by omega)]
          exact ⟨Int.emod_nonneg _ (by omega), Int.emod_lt_of_pos _ hd⟩
        rw [if_pos hd, if_neg (by omega), ← e5, e3, e4, if_pos e6.1, if_pos e6.2, wrap64_of (x := x + T + lag D i c) (by omega) (by omega)]
        exact step
      · have e5 : lag D i c = 0 := by unfold lag; rw [if_neg hd]
        rw [if_neg hd]
        rw [e5, Int.add_zero] at step
        exact step
    · rw [if_neg hx, List.append_nil, List.set_getElem_self] at hq
      rw [decide_eq_false hx, if_neg (by simp), wrap64_of (x := (i : Int) + 1) (by omega) (by omega)]
      exact hq K (by omega)
end
/-- Where a task begins. -/
def startOf (F : List Int) (i : Nat) : Int := if (i : Int) < (F.length : Int) then rd F (i : Int) else 0
def relRow (l : List S49) (F D : List Int) (i : Nat) : List Int := relL D (rd_T49 l (i : Int)).f1 (i : Int) 12 0 (startOf F i)
def relV (l : List S49) (F D : List Int) : List (List Int) := (List.range l.length).map (relRow l F D)
section
variable {F D : List Int} {l : List S49} (hF : ∀ x ∈ F, 0 ≤ x ∧ x ≤ 255) (hD : ∀ x ∈ D, 0 ≤ x ∧ x ≤ 255) (hDl : D.length ≤ 100) (hv : vld l = true)
include hF hD hDl hv
theorem start_bd (i : Nat) : 0 ≤ startOf F i ∧ startOf F i ≤ 255 := by
  unfold startOf
  split
  · exact rd_bytes hF _
  · omega
theorem task_per {i : Nat} (hi : i < l.length) : 1 ≤ (rd_T49 l (i : Int)).f1 ∧ (rd_T49 l (i : Int)).f1 ≤ 1000 := by
  obtain ⟨a, b, c, d, _⟩ := vldT_of ((vld_of hv).2 _ (rd49_mem (l := l) (i := (i : Int)) (by omega) (by omega)))
  exact ⟨c, d⟩
theorem rels_l0 : ∀ (n i K : Nat), i + n = l.length → 100 * n + 1 ≤ K → ontimelaw44_releases.l0 K F D ((List.range i).map (relRow l F D) ++ List.replicate n []) l (l.length : Int) (i : Int) = some (relV l F D) := by
  have h20 := (vld_of hv).1
  intro n
  induction n with
  | zero =>
    intro i K hi hK
    obtain ⟨K, rfl⟩ : ∃ m, K = m + 1 := ⟨K - 1, by omega⟩
    simp only [ontimelaw44_releases.l0]
    rw [if_neg (by omega)]
    obtain rfl : i = l.length := by omega
    simp [relV]
  | succ n ih =>
    intro i K hi hK
    obtain ⟨K, rfl⟩ : ∃ m, K = m + 2 := ⟨K - 2, by omega⟩
    obtain ⟨p1, p2⟩ := task_per hF hD hDl hv (i := i) (by omega)
    obtain ⟨s0, s1⟩ := start_bd hF hD hDl hv i
    obtain ⟨rows, hrows⟩ : ∃ rows, rows = (List.range i).map (relRow l F D) ++ List.replicate (n + 1) ([] : List Int) := ⟨_, rfl⟩
    have hlen : i < rows.length := by rw [hrows]; simp
    have hget : rows[i] = [] := by simp only [hrows]; rw [List.getElem_append_right (by simp)]; simp
    have hset : rows.set i (rows[i] ++ relL D (rd_T49 l (i : Int)).f1 (i : Int) 12 0 (startOf F i)) = (List.range (i + 1)).map (relRow l F D) ++ List.replicate n [] := by
      rw [hget, List.nil_append, hrows, List.set_append_right _ _ (by simp), List.length_map, List.length_range, Nat.sub_self, List.replicate_succ, List.set_cons_zero, List.range_succ, List.map_append, List.append_assoc]
      rfl
    have main := rels_l1 (F := F) (l := l) hD hDl i (by omega) p1 p2 (l.length : Int) (rd_T49 l (i : Int)).f0 (rd_T49 l (i : Int)).f2 (rd_T49 l (i : Int)).f3 (some (relV l F D)) 12 (100 * n + 1) 0 (startOf F i) rows (by omega) (by omega) s0 (by omega) hlen (by rw [hget]; simp) (fun q hq => by
      rw [hset]
      exact ih (i + 1) q (by omega) hq) K (by omega)
    rw [← hrows]
    simp only [ontimelaw44_releases.l0]
    rw [if_pos (by omega), if_pos (by omega), if_pos (by omega)]
    simp only [ontimelaw44_releases.j1]
    by_cases hf : (i : Int) < (F.length : Int)
    · have e : startOf F i = rd F (i : Int) := by unfold startOf; rw [if_pos hf]
      rw [if_pos hf, ← e, wrap64_of (x := startOf F i) (by omega) (by omega)]
      exact main
    · have e : startOf F i = 0 := by unfold startOf; rw [if_neg hf]
      rw [if_neg hf]
      rw [e] at main
      exact main
theorem rels_eq {k : Nat} (hk : 2100 ≤ k) : ontimelaw44_releases.f k l F D = some (relV l F D) := by
  have h20 := (vld_of hv).1
  unfold ontimelaw44_releases.f
  rw [if_pos (by omega), if_pos (by omega)]
  have := rels_l0 hF hD hDl hv l.length 0 k (by omega) (by omega)
  rw [show ((0 : Nat) : Int) = 0 from rfl] at this
  simp only [Int.toNat_natCast]
  exact this
theorem relV_len : (relV l F D).length = l.length := by unfold relV; simp
theorem relV_get {i : Nat} (h : i < (relV l F D).length) : (relV l F D)[i] = relRow l F D i := by
  have hi : i < l.length := by rw [← relV_len hF hD hDl hv]; exact h
  have e : (relV l F D)[i]? = some (relRow l F D i) := by
    unfold relV
    rw [List.getElem?_map, List.getElem?_range hi]
    rfl
  rw [List.getElem?_eq_getElem h] at e
  exact Option.some.inj e
theorem relV_row {i : Nat} (hi : i < l.length) : (relRow l F D i).length ≤ 12 ∧ ∀ y ∈ relRow l F D i, 0 ≤ y ∧ y < 400 := by
  obtain ⟨p1, p2⟩ := task_per hF hD hDl hv hi
  obtain ⟨s0, s1⟩ := start_bd hF hD hDl hv i
  refine ⟨relL_len _ _ _ _ _ _, fun y hy => ?_⟩
  have := relL_bd hD p1 (i : Int) 12 0 (startOf F i) y hy
  omega
theorem relV_rows : ∀ r ∈ relV l F D, r.length ≤ 2000 ∧ W64 r := fun r hr => by
  unfold relV at hr
  obtain ⟨i, hi, rfl⟩ := List.mem_map.1 hr
  obtain ⟨a, b⟩ := relV_row hF hD hDl hv (List.mem_range.1 hi)
  exact ⟨by omega, fun x hx => by have := b x hx; omega⟩
theorem relV_adm : admV l (relV l F D) 500 = 0 := by
  unfold admV
  rw [if_pos ⟨hv, relV_len hF hD hDl hv⟩, if_pos (by omega), if_pos]
  unfold spcAll
  refine List.all_eq_true.2 fun x hx => ?_
  obtain ⟨q, hq⟩ := List.mem_iff_getElem?.1 hx
  rw [List.getElem?_zip_eq_some] at hq
  obtain ⟨h1, h2⟩ := hq
  have hql : q < l.length := by
    rcases Nat.lt_or_ge q l.length with h | h
    · exact h
    · rw [List.getElem?_eq_none h] at h1; cases h1
  have h3 := List.getElem?_eq_getElem (l := relV l F D) (i := q) (by rw [relV_len hF hD hDl hv]; exact hql)
  rw [h3, relV_get hF hD hDl hv] at h2
  rw [List.getElem?_eq_getElem hql] at h1
  obtain ⟨p1, p2⟩ := task_per hF hD hDl hv hql
  obtain ⟨s0, s1⟩ := start_bd hF hD hDl hv q
  rw [← Option.some.inj h1, ← Option.some.inj h2, ← rd49_at l q hql]
  exact relL_spc hD p1 (q : Int) 12 0 (startOf F q) none s0 (fun u hu => by cases hu)
end
/-! The jobs -/
theorem out_few (l : List S49) (rel : List (List Int)) : ∀ t : Nat, (stAt l rel t).out.length ≤ t
  | 0 => Nat.le_refl _
  | t + 1 => by
    have ih := out_few l rel t
    show (stepV l rel (t : Int) (stAt l rel t)).out.length ≤ t + 1
    rcases step_cases l rel (t : Int) (stAt l rel t) with ⟨_, hs⟩ | ⟨pre, p, post, _, _, ⟨_, hs⟩ | ⟨_, hs⟩⟩
    · rw [hs]; exact Nat.le_succ_of_le ih
    · rw [hs]
      show ((stAt l rel t).out ++ [_]).length ≤ t + 1
      rw [List.length_append, List.length_singleton]
      omega
    · rw [hs]; exact Nat.le_succ_of_le ih
theorem out_ok {l : List S49} {rel : List (List Int)} (hA : Adm l rel) : ∀ t : Nat, ∀ j ∈ (stAt l rel t).out, 0 ≤ j.f0 ∧ j.f0 < l.length ∧ 0 ≤ j.f1 ∧ j.f1 ≤ j.f3 ∧ j.f3 ≤ t
  | 0 => fun j hj => by cases hj
  | t + 1 => fun j hj => by
    have ih := out_ok hA t
    have hR := inv_rel hA (inv_at hA t) (by omega)
    have hj' : j ∈ (stepV l rel (t : Int) (stAt l rel t)).out := hj
    rcases step_cases l rel (t : Int) (stAt l rel t) with ⟨_, hs⟩ | ⟨pre, p, post, hw, _, ⟨_, hs⟩ | ⟨_, hs⟩⟩
    · rw [hs] at hj'
      obtain ⟨a, b, c, d, e⟩ := ih j hj'
      exact ⟨a, b, c, d, by omega⟩
    · rw [hs] at hj'
      rcases List.mem_append.1 hj' with h | h
      · obtain ⟨a, b, c, d, e⟩ := ih j h
        exact ⟨a, b, c, d, by omega⟩
      · rw [hw] at hR
        have jp := hR.job p (by simp)
        have := jp.t0
        have := jp.t1
        have := jp.r0
        have := jp.sum
        have := jp.d0
        have := jp.b0
        rw [List.mem_singleton.1 h]
        refine ⟨jp.t0, jp.t1, jp.r0, ?_, ?_⟩
        · show p.rel ≤ (t : Int) + 1
          omega
        · show (t : Int) + 1 ≤ ((t + 1 : Nat) : Int)
          omega
    · rw [hs] at hj'
      obtain ⟨a, b, c, d, e⟩ := ih j hj'
      exact ⟨a, b, c, d, by omega⟩
section
variable {l : List S49} {rel : List (List Int)} (hA : Adm l rel)
include hA
/-- Of a task that is not late: a job's end is known. -/
theorem safe_end {i : Nat} (hi : i < l.length) {r : Int} (h1 : 1 ≤ r) (h2 : r ≤ (rd_T49 l (i : Int)).f2) (hfix : nextV l (i : Int) r = r) {x : Int} (x0 : 0 ≤ x) (hx : x ∈ rel[i]'(by rw [hA.len]; exact hi)) (h5 : x + r ≤ 500) :
    ∃ a b j, (stAt l rel 500).out = a ++ b ∧ j ∈ a ∧ j.f0 = (i : Int) ∧ j.f1 = x ∧ ∀ q ∈ a, q.f3 ≤ x + r := by
  obtain ⟨rn, hrn⟩ : ∃ rn : Nat, r = rn := ⟨r.toNat, by omega⟩
  obtain ⟨xn, hxn⟩ : ∃ xn : Nat, x = xn := ⟨x.toNat, by omega⟩
  have hsafe := safe hA hi (r := rn) (by omega) (by omega) (by rw [← hrn]; exact hfix) (x := x) (X := xn) hxn
  obtain ⟨j, hj, e1, e2⟩ := ended hA (by rw [hA.len]; exact hi) hx (t := xn + rn) (by omega) hsafe
  obtain ⟨more, hmore⟩ := out_pre l rel (xn + rn) (500 - (xn + rn))
  rw [show xn + rn + (500 - (xn + rn)) = 500 by omega] at hmore
  refine ⟨_, more, j, hmore, hj, e1, e2, fun q hq => ?_⟩
  have := (out_ok hA (xn + rn) q hq).2.2.2.2
  omega
/-- The release of an ended job is one of its task's. -/
theorem out_rel {t : Nat} {j : S34} (hj : j ∈ (stAt l rel t).out) {i : Nat} (hi : i < rel.length) (h0 : j.f0 = (i : Int)) : j.f1 ∈ rel[i] := by
  have hI := inv_at hA t
  refine (due_sub ((t : Int) - 1) rel[i]).subset ?_
  rw [← hI.fifo i hi]
  exact List.mem_append_left _ (List.mem_map_of_mem (f := fun j : S34 => j.f1) (List.mem_filter.2 ⟨hj, by unfold ok; exact beq_iff_eq.2 h0⟩))
end
theorem ResponseSafe {P Q S T U : Prop} (l : List S49) (F D : List Int) (_ : P) (_ : Q) (_ : S) (_ : T) (hwF : ∀ x ∈ F, (Lit.int .u8 x).wf = true) (_ : U) {V : Prop} (_ : V) (hwD : ∀ x ∈ D, (Lit.int .u8 x).wf = true) {W : Prop} (_ : W) :
    ∃ k, ontimelaw44_ResponseSafe.f k l F D = some true := by
  obtain ⟨k, hk⟩ : ∃ q : Nat, 50000 ≤ q := ⟨50000, Nat.le_refl _⟩
  refine ⟨k, ?_⟩
  have hF : ∀ x ∈ F, 0 ≤ x ∧ x ≤ 255 := fun x hx => b8 (hwF x hx)
  have hD : ∀ x ∈ D, 0 ≤ x ∧ x ≤ 255 := fun x hx => b8 (hwD x hx)
  unfold ontimelaw44_ResponseSafe.f
  rw [awake_eq (by omega)]
  simp only [Option.bind_some]
  rw [if_pos trivial, great_eq (by omega)]
  simp only [Option.bind_some]
  cases hg : grt l with
  | true => rw [if_pos rfl]
  | false =>
  rw [if_neg (by simp)]
  by_cases h6 : 6 < (l.length : Int)
  · rw [if_pos h6]
  rw [if_neg h6, cvalid_eq (by omega)]
  simp only [Option.bind_some]
  cases hv : vld l with
  | false => rw [if_neg (by simp)]
  | true =>
  rw [if_pos rfl]
  by_cases h100 : 100 < (D.length : Int)
  · rw [if_pos h100]
  have hDl : D.length ≤ 100 := by omega
  have hadm := relV_adm hF hD hDl hv
  have hA := (Adm.of hadm).1
  have hlen := relV_len hF hD hDl hv
  rw [if_neg h100, rels_eq hF hD hDl hv (by omega)]
  simp only [Option.bind_some]
  rw [sim_eq (by omega) (relV_rows hF hD hDl hv), hadm, if_pos rfl]
  simp only [Option.bind_some]
  rw [if_pos trivial]
  have hsl := simV_st l (relV l F D) 500
  have hjl : (simV l (relV l F D) 500).length ≤ 500 := by rw [hsl]; exact out_few l (relV l F D) 500
  have hresp : ∀ i : Nat, i < l.length → ∃ res, response_Response.f k l (i : Int) = some res ∧ IsResp l (i : Int) res := fun i hi => resp_yes (known_iff hv (by omega) (by omega)) (by omega)
  have hget : ∀ i (h : i < l.length), (relV l F D)[i]'(by rw [hlen]; exact h) = relRow l F D i := fun i h => relV_get hF hD hDl hv _
  suffices hok : safeOk k l (relV l F D) (simV l (relV l F D) 500) = true by rw [if_pos hok]
  unfold safeOk
  rw [Bool.and_eq_true, Bool.and_eq_true]
  refine ⟨⟨decide_eq_true ⟨by omega, by omega⟩, List.all_eq_true.2 fun j hj => ?_⟩, List.all_eq_true.2 fun i hi => ?_⟩
  · rw [hsl] at hj
    have hj : j ∈ (stAt l (relV l F D) 500).out := hj
    obtain ⟨a, b, c, d, e⟩ := out_ok hA 500 j hj
    have e : j.f3 ≤ 500 := e
    obtain ⟨i, hi⟩ : ∃ i : Nat, j.f0 = i := ⟨j.f0.toNat, by omega⟩
    have hil : i < l.length := by omega
    obtain ⟨res, hr, his⟩ := hresp i hil
    unfold safeJ
    rw [decide_eq_true ⟨a, b, c, by omega, by omega, by omega⟩, Bool.true_and, hi, hr]
    refine decide_eq_true fun h0 => ?_
    rcases his with ⟨_, h1, h2, h3, _⟩ | ⟨rfl, _⟩
    · rcases Int.lt_or_le (j.f3 - j.f1) (res.1 + 1) with h | h
      · omega
      · exfalso
        have hx := out_rel hA hj (i := i) (by rw [hlen]; exact hil) hi
        obtain ⟨p, q, j', e1, e2, e3, e4, e5⟩ := safe_end hA hil h1 h2 h3 c hx (by omega)
        rw [e1] at hj
        rcases List.mem_append.1 hj with hj | hj
        · have := e5 j hj
          omega
        · have := one_job hA (by rw [hlen]; exact hil) e1 e2 hj e3 hi
          omega
    · exact absurd h0 (by decide)
  · have hil : i < l.length := by rw [← hlen]; exact List.mem_range.1 hi
    obtain ⟨res, hr, his⟩ := hresp i hil
    obtain ⟨r1, r2⟩ := relV_row hF hD hDl hv hil
    have hgd : (relV l F D).getD i [] = relRow l F D i := by
      rw [List.getD_eq_getElem?_getD, List.getElem?_eq_getElem (by rw [hlen]; exact hil), ← hget i hil]
      rfl
    have hdl : (rd_T49 l (i : Int)).f2 ≤ 1000 := by
      obtain ⟨_, _, _, h4, _, h6, _⟩ := vldT_of ((vld_of hv).2 _ (rd49_mem (l := l) (i := (i : Int)) (by omega) (by omega)))
      omega
    unfold safeI
    rw [hr, hgd]
    show (decide (0 ≤ res.1 ∧ res.1 ≤ 1000000 ∧ (relRow l F D i).length ≤ 1000000) && (relRow l F D i).all _) = true
    rw [Bool.and_eq_true]
    refine ⟨decide_eq_true ⟨?_, ?_, by omega⟩, List.all_eq_true.2 fun x hx => ?_⟩
    · rcases his with ⟨_, h1, _⟩ | ⟨rfl, _⟩
      · omega
      · decide
    · rcases his with ⟨_, _, h2, _⟩ | ⟨rfl, _⟩
      · omega
      · decide
    · obtain ⟨x0, x1⟩ := r2 x hx
      rw [Bool.and_eq_true, Bool.or_eq_true, Bool.or_eq_true]
      refine ⟨decide_eq_true ⟨x0, by omega⟩, ?_⟩
      rcases his with ⟨_, h1, h2, h3, _⟩ | ⟨rfl, _⟩
      · by_cases h5 : 500 < x + res.1
        · exact .inl (.inr (decide_eq_true h5))
        · obtain ⟨p, q, j', e1, e2, e3, e4, _⟩ := safe_end hA hil h1 h2 h3 x0 (by rw [hget i hil]; exact hx) (by omega)
          refine .inr (List.any_eq_true.2 ⟨j', ?_, by rw [e3, e4]; simp⟩)
          rw [hsl]
          show j' ∈ (stAt l (relV l F D) 500).out
          rw [e1]
          exact List.mem_append_left _ e2
      · exact .inl (.inl (by decide))
end Go.Proofs.Ytcmifojplgmgkaa.Pure
