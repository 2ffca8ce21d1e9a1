-- written by wip/drive.py (a driver of this session's own over the kit's print.py)
import Derived.Maps.OwnOps
import Derived.Maps.Views
import Derived.Test.YtcmifojplgmgkaaP0
import Derived.Test.YtcmifojplgmgkaaP3
import Derived.Test.YtcmifojplgmgkaaP5
import Derived.Test.YtcmifojplgmgkaaP6
namespace Go.Proofs.Ytcmifojplgmgkaa.P
open Go.RowKit Go.Proofs.YtcmifojplgmgkaaW.PrintWords Go.Proofs.YtcmifojplgmgkaaW.PrintLast Go.Proofs.YtcmifojplgmgkaaW.PrintMore
attribute [local go_sem] max2_int min2_int max_two min_two max_three min_three max_four min_four   -- for this text's walks alone
set_option linter.unusedVariables false
set_option linter.unusedSimpArgs false

-- PLUG
/-! ### response_Blocking (function 24): by hand: it looks into a map -/
/-- Does a task use an object? -/
def usesO (t : S49) (o : Int) : Bool := t.f3.any fun s => s.f0 == o
/-- What the map of ceilings tells of an object: the first task that uses it; 0 where none does. -/
def ceilF (l : List S49) (o : Int) : Int := ((l.findIdx? fun t => usesO t o).getD 0 : Nat)
section
variable {H : Type}
theorem keyI (o : Int) : WideAt.IsKeyLit (.int .i64 o) := trivial
theorem putT'_isMap (i : Int) (ss : List S68) : ∀ {D : DataW H}, Maps.IsMap D → Maps.IsMap (ss.foldl (putS i) D) := by
  induction ss with
  | nil => exact fun h => h
  | cons s r ih => exact fun h => ih (h.put _ _)
theorem putT'_at (i o : Int) (ss : List S68) : ∀ {D : DataW H}, Maps.IsMap D → (ss.foldl (putS i) D).atKey (.int .i64 o) (.lit (.int .i64 0)) = if ss.any (fun s => s.f0 == o) = true then .lit (.int .i64 i) else D.atKey (.int .i64 o) (.lit (.int .i64 0)) := by
  induction ss with
  | nil => intro D _; rfl
  | cons s r ih =>
    intro D hD
    have hp : Maps.IsMap (putS i D s) := hD.put _ _
    rw [List.foldl_cons, ih hp, List.any_cons]
    by_cases hr : r.any (fun s => s.f0 == o) = true
    · rw [if_pos hr, hr, Bool.or_true, if_pos rfl]
    · rw [if_neg hr]
      have hr' : r.any (fun s => s.f0 == o) = false := by simpa using hr
      rw [hr', Bool.or_false]
      unfold putS
      by_cases hs : s.f0 = o
      · subst hs
        rw [Maps.atKey_put_same hD (keyI _), beq_self_eq_true, if_pos rfl]
      · rw [Maps.atKey_put_other (by intro e; injection e with _ e; exact hs e.symm), beq_eq_false_iff_ne.2 hs, if_neg (by simp)]
theorem ceilL_isMap (l : List S49) : ∀ k, Maps.IsMap (ceilL (H := H) l k) := by
  intro k
  induction k with
  | zero => exact Maps.isMap_empty
  | succ k ih =>
    unfold ceilL at *
    rw [List.range_succ, List.foldl_append]
    exact putT'_isMap _ _ ih
/-- The first task from i on that uses an object, else 0. -/
def ceilFrom (l : List S49) (o : Int) (i : Nat) : Int := match (l.drop i).findIdx? (fun t => usesO t o) with
  | some j => ((i + j : Nat) : Int)
  | none => 0
theorem ceilL_from (l : List S49) (o : Int) : ∀ k, k ≤ l.length → (ceilL (H := H) l k).atKey (.int .i64 o) (.lit (.int .i64 0)) = .lit (.int .i64 (ceilFrom l o (l.length - k))) := by
  intro k
  induction k with
  | zero =>
    intro _
    unfold ceilFrom
    rw [Nat.sub_zero, List.drop_length]
    rfl
  | succ k ih =>
    intro hk
    have e1 : ceilL (H := H) l (k + 1) = (rd_T49 l ((l.length : Int) - 1 - k)).f3.foldl (putS ((l.length : Int) - 1 - k)) (ceilL l k) := by
      unfold ceilL
      rw [List.range_succ, List.foldl_append]
      rfl
    rw [e1, putT'_at _ _ _ (ceilL_isMap l k), ih (by omega)]
    have hi : l.length - (k + 1) < l.length := by omega
    have e2 : (l.length : Int) - 1 - k = ((l.length - (k + 1) : Nat) : Int) := by omega
    rw [e2, rd49_at l _ hi]
    unfold ceilFrom
    rw [List.drop_eq_getElem_cons hi, List.findIdx?_cons, show l.length - (k + 1) + 1 = l.length - k by omega]
    by_cases hu : usesO l[l.length - (k + 1)] o = true
    · rw [if_pos hu]
      have hu' := hu
      unfold usesO at hu'
      rw [if_pos hu']
      simp
    · rw [if_neg hu]
      have hu' := hu
      unfold usesO at hu'
      rw [if_neg hu']
      cases (l.drop (l.length - k)).findIdx? (fun t => usesO t o) with
      | none => rfl
      | some j => simp; omega
theorem ceilL_at (l : List S49) (o : Int) : (ceilL (H := H) l l.length).atKey (.int .i64 o) (.lit (.int .i64 0)) = .lit (.int .i64 (ceilF l o)) := by
  rw [ceilL_from l o l.length (Nat.le_refl _), Nat.sub_self]
  unfold ceilFrom ceilF
  rw [List.drop_zero]
  cases l.findIdx? (fun t => usesO t o) with
  | none => rfl
  | some j => simp
end
/-- A section of a valid task. -/
theorem secB_bd {cost : Int} : ∀ {l : List S68} {e : Int}, 0 ≤ e → secB cost e l = true → ∀ s ∈ l, 0 ≤ s.f1 ∧ s.f1 < s.f2 ∧ s.f2 ≤ cost ∧ 0 ≤ s.f0 ∧ s.f0 ≤ 1000 := by
  intro l
  induction l with
  | nil => intro e _ _ s hs; cases hs
  | cons a r ih =>
    intro e he h s hs
    unfold secB at h
    rw [Bool.and_eq_true] at h
    have h1 := of_decide_eq_true h.1
    rcases List.mem_cons.1 hs with rfl | hs
    · exact ⟨by omega, h1.2.1, h1.2.2.1, h1.2.2.2.1, h1.2.2.2.2⟩
    · exact ih (by omega) h.2 s hs
theorem rd68_mem {l : List S68} {i : Int} (h0 : 0 ≤ i) (h1 : i < l.length) : rd_T68 l i ∈ l := by
  have := rd68_at l i.toNat (by omega)
  rw [Int.toNat_of_nonneg h0] at this
  rw [this]
  exact List.getElem_mem _
theorem take68 {l : List S68} {j : Int} (h0 : 0 ≤ j) (h1 : j < l.length) : l.take (j + 1).toNat = l.take j.toNat ++ [rd_T68 l j] := by
  have := rd68_at l j.toNat (by omega)
  rw [Int.toNat_of_nonneg h0] at this
  rw [show (j + 1).toNat = j.toNat + 1 by omega, List.take_succ_eq_append_getElem (show j.toNat < l.length by omega), this]
theorem take49 {l : List S49} {j : Int} (h0 : 0 ≤ j) (h1 : j < l.length) : l.take (j + 1).toNat = l.take j.toNat ++ [rd_T49 l j] := by
  have := rd49_at l j.toNat (by omega)
  rw [Int.toNat_of_nonneg h0] at this
  rw [show (j + 1).toNat = j.toNat + 1 by omega, List.take_succ_eq_append_getElem (show j.toNat < l.length by omega), this]
/-- The longest blocking by the sections of a task. -/
def secMax (l : List S49) (task : Int) (m : Int) (ss : List S68) : Int := ss.foldl (fun m s => if ceilF l s.f0 ≤ task then mx m (s.f2 - s.f1 - 1) else m) m
theorem secMax_snoc (l : List S49) (task m : Int) (ss : List S68) (s : S68) : secMax l task m (ss ++ [s]) = if ceilF l s.f0 ≤ task then mx (secMax l task m ss) (s.f2 - s.f1 - 1) else secMax l task m ss := by
  unfold secMax
  rw [List.foldl_append]
  rfl
theorem lit_int_inj {x y : Int} (h : (DataW.lit (.int .i64 x) : DataW Unit) = DataW.lit (.int .i64 y)) : x = y := by
  injection h with h
  injection h
def blockV (l : List S49) (task : Int) : Int := (l.drop (task.toNat + 1)).foldl (fun m t => secMax l task m t.f3) 0
def response_Blocking.f (k : Nat) (l0 : List (S49)) (a1 : Int) : Option (Int) := (response_known.f k l0 a1).bind fun t => (if t = true then some (blockV l0 a1) else some (-1))
theorem response_Blocking.mono : ∀ a0 a1 k, LeO (response_Blocking.f k a0 a1) (response_Blocking.f (k + 1) a0 a1) := by
  intro a0 a1 k
  unfold response_Blocking.f
  exact LeO.bind (response_known.mono _ _ _) (fun _ => LeO.refl _)
theorem known_of {k : Nat} {l : List S49} {task : Int} {r : Bool} (h : response_known.f k l task = some r) : r = (vld l && decide (0 ≤ task ∧ task < l.length)) := by
  unfold response_known.f at h
  obtain ⟨v, hv, h⟩ := Option.bind_eq_some_iff.mp h
  rw [cvalid_of hv]
  cases v with
  | false => rw [if_neg (by simp)] at h; rw [← Option.some.inj h]; rfl
  | true =>
    rw [if_pos rfl] at h
    by_cases h0 : task ≥ 0
    · rw [if_pos h0] at h
      rw [← Option.some.inj h, Bool.true_and]
      exact decide_eq_decide.2 ⟨fun hh => ⟨h0, hh⟩, fun hh => hh.2⟩
    · rw [if_neg h0] at h
      rw [← Option.some.inj h, Bool.true_and, decide_eq_false (by omega)]
set_option maxHeartbeats 8000000 in
set_option maxRecDepth 100000 in
theorem response_Blocking.calls (k : Nat) (A0 : Option Addr) (c0 : Nat) (l0 : List (S49)) (a1 : Int) (r : Int) (w : World) (hr0 : Kd.C k49 w A0 l0.length l0) (hc0 : l0.length ≤ c0) (h : response_Blocking.f k l0 a1 = some r) :
    Calls Try.prog 24 #[.slice A0 l0.length c0, .int .i64 a1] w fun e w' => e = .returned (.int .i64 r) ∧ Below w.heap.size w w' := by
  have hu49 := Try.underlying49
  have hu68 := Try.underlying68
  have hu22 := Try.underlying22
  have HR := Aside0.mk hr0
  have HCAP := Aside0.mk hc0
  clear hr0 hc0
  unfold response_Blocking.f at h
  obtain ⟨kn, A1, H⟩ := Option.bind_eq_some_iff.mp h
  have AK := Aside0.mk A1
  have hkn := known_of A1
  clear A1 h
  cases kn with
  | false =>
    rw [if_neg (by simp)] at H
    obtain rfl := Option.some.inj H
    clear H hkn
    go_enter Try.func24, Try.ntmps24
    go_wp2_with fail
    refine (response_known.calls k A0 c0 l0 a1 false w HR.out HCAP.out AK.out).mono ?_
    rintro e w1 ⟨rfl, hb1⟩
    have HB := Aside0.mk hb1
    clear hb1
    go_wp2
    go_ret
    exact ⟨rfl, HB.out⟩
  | true =>
    rw [if_pos rfl] at H
    obtain rfl := Option.some.inj H
    clear H
    have hv : vld l0 = true ∧ (0 ≤ a1 ∧ a1 < l0.length) := by
      have := hkn.symm
      rw [Bool.and_eq_true] at this
      exact ⟨this.1, of_decide_eq_true this.2⟩
    obtain ⟨hv, t0, t1⟩ := hv
    obtain ⟨h20, hall⟩ := vld_of hv
    have HV := Aside0.mk hv
    have HALL := Aside0.mk hall
    clear hkn hv hall
    go_enter Try.func24, Try.ntmps24
    go_wp2_with fail
    refine (response_known.calls k A0 c0 l0 a1 true w HR.out HCAP.out AK.out).mono ?_
    rintro e w1 ⟨rfl, hb1⟩
    have HB1 := Aside0.mk hb1
    clear hb1
    go_wp2_with fail
    refine (ceil_yes A0 c0 l0 w1 (Kd.C_below HR.out HB1.out) HCAP.out HV.out).mono ?_
    rintro e w2 ⟨rfl, hown, hb2⟩
    have HO := Aside0.mk hown
    have HB2 := Aside0.mk (below_step HB1.out hb2)
    clear hown hb2
    obtain ⟨i049, hi049, _, hsz49, _⟩ := info_parts info49
    have hcut := cut_from (P := Try.prog) 22 49 .i64 Try.underlying22 hi049 4 hsz49 A0 l0.length c0 (a1 + 1) (by omega) (by omega)
    generalize hc' : c0 - (a1 + 1).toNat = C' at hcut
    have hC := Kd.C_drop (m := (a1 + 1).toNat) (c := c0) HR.out (by omega) HCAP.out
    rw [List.length_drop, show k49.sz = 4 from rfl] at hC
    generalize (if c0 = (a1 + 1).toNat then A0 else Option.map (fun x => x.add ((a1 + 1).toNat * 4)) A0) = A' at hcut hC
    obtain ⟨dl, hdl⟩ : ∃ dl, dl = l0.drop (a1.toNat + 1) := ⟨_, rfl⟩
    have e1 : (a1 + 1).toNat = a1.toNat + 1 := by omega
    rw [e1] at hC hcut
    rw [← hdl] at hC
    have hL : l0.length - (a1.toNat + 1) = dl.length := by rw [hdl, List.length_drop]
    rw [hL] at hC hcut
    have hL20 : dl.length ≤ 20 := by omega
    have hmem : ∀ t ∈ dl, vldT t = true := fun t ht => HALL.out t (by rw [hdl] at ht; exact List.mem_of_mem_drop ht)
    have HD := Aside0.mk hC
    have HMEM := Aside0.mk hmem
    have HDL := Aside0.mk hdl
    have HZ := Aside0.mk Try.zeroValue3
    clear hC hi049 hsz49 e1 hdl hL hc' hmem
    rename_i left_ right_
    clear left_ right_
    go_wp2
    clear hcut
    go_loopw [6, 22] (fun v6 v22 wr => ∃ (m i : Int), v6 = .int .i64 m ∧ v22 = .int .i64 i ∧ 0 ≤ i ∧ i ≤ dl.length ∧ 0 ≤ m ∧ m ≤ 1000 ∧ Aside0 (m = (dl.take i.toNat).foldl (fun m t => secMax l0 a1 m t.f3) 0) ∧
        Aside0 (wr.ownsMap Try.prog 3 (plainElem (H := Unit) Try.prog 3) w1.heap.size (8 * l0.length) (ceilL l0 l0.length) ∧ Below w.heap.size w wr)) (fun _ v _ => dl.length - (intOf v).toNat)
    case atStart => exact ⟨0, 0, rfl, rfl, by omega, by omega, by omega, by omega, ⟨rfl⟩, ⟨HO.out, HB2.out⟩⟩
    case round =>
      obtain ⟨m, i, rfl, rfl, i0, i1, m0, m1, HM, HW⟩ := hrel
      by_cases hi : i < dl.length
      · obtain ⟨ad, A3, c3, hA, x0, x1, x2, x3, x4, x5⟩ := at_T49 HD.out i i0 hi
        subst hA
        have hb := HW.out.2
        replace x0 := (hb.cell (World.block_lt_of_cell? w _ x0)).trans x0
        replace x1 := (hb.cell (World.block_lt_of_cell? w _ x1)).trans x1
        replace x2 := (hb.cell (World.block_lt_of_cell? w _ x2)).trans x2
        replace x3 := (hb.cell (World.block_lt_of_cell? w _ x3)).trans x3
        have X5 := Aside0.mk x5
        have hsB := hb.size
        have hV := HMEM.out _ (rd49_mem i0 hi)
        obtain ⟨v1, v2, _, _, _, _, v7, v8⟩ := vldT_of hV
        have HSEC := Aside0.mk (secB_bd (Int.le_refl 0) v8)
        have HTK := Aside0.mk (take49 i0 hi)
        generalize rd_T49 dl i = t at x0 x1 x2 x3 v1 v2 v7 HSEC X5 HTK
        clear x4 x5 hb hV v8
        obtain ⟨wo, rfl⟩ : ∃ wo : World, wo = wr := ⟨_, rfl⟩
        go_wp2
        clear x0 x1 x2 x3
        go_loopw [6, 29] (fun v6 v29 wr => ∃ (m2 j : Int), v6 = .int .i64 m2 ∧ v29 = .int .i64 j ∧ 0 ≤ j ∧ j ≤ t.f3.length ∧ 0 ≤ m2 ∧ m2 ≤ 1000 ∧ Aside0 (m2 = secMax l0 a1 m (t.f3.take j.toNat)) ∧
            Aside0 (wr.ownsMap Try.prog 3 (plainElem (H := Unit) Try.prog 3) w1.heap.size (8 * l0.length) (ceilL l0 l0.length) ∧ Below w.heap.size w wr)) (fun _ v _ => t.f3.length - (intOf v).toNat)
        case atStart => exact ⟨m, 0, rfl, rfl, by omega, by omega, m0, m1, ⟨rfl⟩, ⟨HW.out.1.alloc _, HW.out.2.alloc hsB _⟩⟩
        case round =>
          obtain ⟨m2, j, rfl, rfl, j0, j1, n0, n1, HM2, HW2⟩ := hrel
          by_cases hj : j < t.f3.length
          · obtain ⟨ad2, hA, y0, y1, y2⟩ := at_T68 X5.out j j0 hj
            subst hA
            have hb := HW2.out.2
            replace y0 := (hb.cell (World.block_lt_of_cell? w _ y0)).trans y0
            replace y1 := (hb.cell (World.block_lt_of_cell? w _ y1)).trans y1
            replace y2 := (hb.cell (World.block_lt_of_cell? w _ y2)).trans y2
            have hsB2 := hb.size
            obtain ⟨s0, s1, s2, s3, s4⟩ := HSEC.out _ (rd68_mem j0 hj)
            have HTK2 := Aside0.mk (take68 j0 hj)
            generalize rd_T68 t.f3 j = s at y0 y1 y2 s0 s1 s2 s3 s4 HTK2
            clear hb
            have hkey := Maps.keyOf_int_mk Try.underlying3 (wf64 (show -9223372036854775808 ≤ s.f0 by omega) (by omega))
            have hown := HW2.out.1.alloc (.cells #[.int .i64 s.f0, .int .i64 s.f1, .int .i64 s.f2] 68)
            go_wp2_with (at_lookup; refine wpList_lookup_own_int _ rfl _ _ 65 rfl 3 3 .i64 (Maps.int_keyed Try.underlying3) Try.underlying65 Try.underlying3 (HZ.out _) w1.heap.size (8 * l0.length) _ rfl hown _ _ rfl hkey ?_; intro c hat hwc)
            · have hle : c ≤ a1 := by assumption
              have hcF : ceilF l0 s.f0 = c := lit_int_inj ((ceilL_at l0 s.f0).symm.trans hat)
              refine ⟨⟨_, j + 1, rfl, rfl, by omega, by omega, ?_, ?_, ⟨?_⟩, ⟨hown, HW2.out.2.alloc hsB2 _⟩⟩, by simp [intOf]; omega⟩
              · split <;> omega
              · split <;> omega
              · rw [HTK2.out, secMax_snoc, hcF, if_pos hle, ← HM2.out]
                rfl
            · have hle : a1 < c := by assumption
              have hcF : ceilF l0 s.f0 = c := lit_int_inj ((ceilL_at l0 s.f0).symm.trans hat)
              refine ⟨⟨m2, j + 1, rfl, rfl, by omega, by omega, n0, n1, ⟨?_⟩, ⟨hown, HW2.out.2.alloc hsB2 _⟩⟩, by simp [intOf]; omega⟩
              rw [HTK2.out, secMax_snoc, hcF, if_neg (by omega), HM2.out]
          · obtain rfl : j = t.f3.length := by omega
            go_wp2
            refine ⟨⟨m2, i + 1, rfl, rfl, by omega, by omega, n0, n1, ⟨?_⟩, HW2⟩, by simp [intOf]; omega⟩
            have h := HM2.out
            rw [Int.toNat_natCast, List.take_length] at h
            rw [HTK.out, List.foldl_append, ← HM.out]
            exact h
      · obtain rfl : i = dl.length := by omega
        have h := HM.out
        rw [Int.toNat_natCast, List.take_length, HDL.out] at h
        have HM' := Aside0.mk h
        clear h
        go_wp2
        go_ret
        exact ⟨by rw [HM'.out]; rfl, HW.out.2⟩

end Go.Proofs.Ytcmifojplgmgkaa.P
