-- written by wip/drive.py (a driver of this session's own over the kit's print.py)
import Derived.Maps.OwnOps
import Derived.Maps.Views
import Derived.Test.YtcmifojplgmgkaaP0
import Derived.Test.YtcmifojplgmgkaaP3
import Derived.Test.YtcmifojplgmgkaaP5
import Derived.Test.YtcmifojplgmgkaaP7
import Derived.Test.YtcmifojplgmgkaaP12
import Derived.Test.YtcmifojplgmgkaaP16
import Derived.Test.YtcmifojplgmgkaaP28
import Derived.Test.YtcmifojplgmgkaaP30
namespace Go.Proofs.Ytcmifojplgmgkaa.P
open Go.RowKit Go.Proofs.YtcmifojplgmgkaaW.PrintWords Go.Proofs.YtcmifojplgmgkaaW.PrintLast Go.Proofs.YtcmifojplgmgkaaW.PrintMore
attribute [local go_sem] max2_int min2_int max_two min_two max_three min_three max_four min_four   -- for this text's walks alone
set_option linter.unusedVariables false
set_option linter.unusedSimpArgs false

-- PLUG
/-! ### ontimelaw43_CeilingBlocks (function 12): by hand: it looks into the map of ceilings; one way -/
def blkC (l : List S49) (j : S34) : Bool := decide (0 ≤ j.f0 ∧ j.f0 < l.length ∧ 0 ≤ j.f4 ∧ j.f4 ≤ blockV l j.f0 ∧ j.f4 ≤ j.f2 - j.f1 ∧ 0 ≤ j.f1 ∧ j.f1 ≤ 100000 ∧ 0 ≤ j.f2 ∧ j.f2 ≤ 100000)
def blkOk (l : List S49) (r : List S34 × Int) : Bool := decide (r.2 = 0 ∧ vld l = true ∧ r.1.length ≤ 100000) && r.1.all (blkC l)
def ontimelaw43_CeilingBlocks.f (k : Nat) (l0 : List S49) (l1 : List (List Int)) (a2 : Int) : Option Bool :=
  (ontimelaw43_awake.f k).bind fun t => if t = true then ((ontimelaw43_fits.f k l0 l1 a2).bind fun g => if g = true then ((ceiling_Simulate.f k l0 l1 a2).bind fun r => if blkOk l0 r = true then some true else none) else some true) else none
set_option maxHeartbeats 8000000 in
set_option maxRecDepth 100000 in
theorem ontimelaw43_CeilingBlocks.calls (k : Nat) (A0 : Option Addr) (c0 : Nat) (l0 : List (S49)) (A1 : Option Addr) (c1 : Nat) (l1 : List (List Int)) (a2 : Int) (r : Bool) (w : World) (hr0 : Kd.C k49 w A0 l0.length l0) (hc0 : l0.length ≤ c0)
    (hr1 : Kd.C (Kd.slice 3 (Kd.int .i64)) w A1 l1.length l1) (hc1 : l1.length ≤ c1) (h : ontimelaw43_CeilingBlocks.f k l0 l1 a2 = some r) :
    Calls Try.prog 12 #[.slice A0 l0.length c0, .slice A1 l1.length c1, .int .i64 a2] w fun e w' => e = .returned (.bool r) ∧ Below w.heap.size w w' := by
  have hu49 := Try.underlying49
  have hu68 := Try.underlying68
  have hu22 := Try.underlying22
  have hu34 := Try.underlying34
  have HR := Aside0.mk hr0
  have HS := Aside0.mk hr1
  have HC0 := Aside0.mk hc0
  have HC1 := Aside0.mk hc1
  clear hr0 hr1 hc0 hc1
  unfold ontimelaw43_CeilingBlocks.f at h
  obtain ⟨t, h1, h⟩ := Option.bind_eq_some_iff.mp h
  cases t with
  | false => rw [if_neg (by simp)] at h; cases h
  | true =>
  rw [if_pos rfl] at h
  have A1 := Aside0.mk h1
  clear h1
  obtain ⟨g, h1, h⟩ := Option.bind_eq_some_iff.mp h
  have A2 := Aside0.mk h1
  clear h1
  cases g with
  | false =>
    rw [if_neg (by simp)] at h
    obtain rfl := Option.some.inj h
    clear h
    go_enter Try.func12, Try.ntmps12
    go_wp2_with fail
    refine (ontimelaw43_awake.calls k true w A1.out).mono ?_
    rintro e w1 ⟨rfl, hb1⟩
    have HB1 := Aside0.mk hb1
    clear hb1
    go_wp2_with fail
    refine (ontimelaw43_fits.calls k _ _ l0 _ _ l1 a2 false w1 (Kd.C_below HR.out HB1.out) HC0.out (Kd.C_below HS.out HB1.out) HC1.out A2.out).mono ?_
    rintro e w2 ⟨rfl, hb2⟩
    have HB2 := Aside0.mk (below_step HB1.out hb2)
    clear hb2
    go_wp2_with fail
    refine (ontimelaw43_awake.calls k true w2 A1.out).mono ?_
    rintro e w3 ⟨rfl, hb3⟩
    have HB3 := Aside0.mk (below_step HB2.out hb3)
    clear hb3
    go_wp2
    go_ret
    exact ⟨rfl, HB3.out⟩
  | true =>
  rw [if_pos rfl] at h
  obtain ⟨⟨jobs, e0⟩, h1, h⟩ := Option.bind_eq_some_iff.mp h
  have A3 := Aside0.mk h1
  clear h1
  by_cases hok : blkOk l0 (jobs, e0) = true
  case neg => rw [if_neg hok] at h; cases h
  rw [if_pos hok] at h
  obtain rfl := Option.some.inj h
  clear h
  unfold blkOk at hok
  rw [Bool.and_eq_true] at hok
  obtain ⟨h2, hgo⟩ := hok
  obtain ⟨he0, hv, hjl⟩ := of_decide_eq_true h2
  dsimp only at he0 hgo hjl
  subst he0
  have HGO := Aside0.mk (List.all_eq_true.1 hgo)
  have HV := Aside0.mk hv
  obtain ⟨h20, hall⟩ := vld_of hv
  have HALL := Aside0.mk hall
  clear h2 hgo hv hall
  go_enter Try.func12, Try.ntmps12
  go_wp2_with fail
  refine (ontimelaw43_awake.calls k true w A1.out).mono ?_
  rintro e w1 ⟨rfl, hb1⟩
  have HB1 := Aside0.mk hb1
  clear hb1
  go_wp2_with fail
  refine (ontimelaw43_fits.calls k _ _ l0 _ _ l1 a2 true w1 (Kd.C_below HR.out HB1.out) HC0.out (Kd.C_below HS.out HB1.out) HC1.out A2.out).mono ?_
  rintro e w2 ⟨rfl, hb2⟩
  have HB2 := Aside0.mk (below_step HB1.out hb2)
  clear hb2
  go_wp2_with fail
  refine (ceiling_Simulate.calls k _ _ l0 _ _ l1 a2 jobs 0 w2 (Kd.C_below HR.out HB2.out) HC0.out (Kd.C_below HS.out HB2.out) HC1.out A3.out).mono ?_
  rintro e w3 ⟨vj, rfl, hj, hb3⟩
  have HB3 := Aside0.mk (below_step HB2.out hb3)
  obtain ⟨A7, c7, rfl, hc7, hj7⟩ := Kd.R_reads hj
  have HJ := Aside0.mk hj7
  clear hb3 hj hj7
  go_wp2_with fail
  refine (ceil_yes A0 c0 l0 w3 (Kd.C_below HR.out HB3.out) HC0.out HV.out).mono ?_
  rintro e w4 ⟨rfl, hown, hb4⟩
  have HO := Aside0.mk hown
  have HB4 := Aside0.mk (below_step HB3.out hb4)
  have HJ4 := Aside0.mk (Kd.C_below HJ.out hb4)
  have HZ := Aside0.mk Try.zeroValue3
  clear hown hb4 HJ HB3 HB2 HB1
  generalize w3.heap.size = mb at HO ⊢
  obtain ⟨wo, rfl⟩ : ∃ wo : World, wo = w4 := ⟨_, rfl⟩
  go_wp2_with fail
  go_loopw [38] (fun v38 wr => ∃ (i : Int), v38 = .int .i64 i ∧ 0 ≤ i ∧ i ≤ jobs.length ∧ Aside0 (Below wo.heap.size wo wr)) (fun v _ => jobs.length - (intOf v).toNat)
  case atStart => exact ⟨0, rfl, by omega, by omega, ⟨Below.refl _ _⟩⟩
  case round =>
    obtain ⟨i, rfl, i0, i1, HI⟩ := hrel
    by_cases hi : i < jobs.length
    · have hij : i.toNat < jobs.length := by omega
      obtain ⟨ad, hA, x0, x1, x2, x3, x4⟩ := at_T34 (Kd.C_below HJ4.out HI.out) i i0 hi
      subst hA
      have hjm : rd_T34 jobs i ∈ jobs := by
        unfold rd_T34
        rw [List.getD_eq_getElem?_getD, List.getElem?_eq_getElem hij]
        exact List.getElem_mem _
      have hd := HGO.out _ hjm
      generalize rd_T34 jobs i = j at x0 x1 x2 x3 x4 hd
      obtain ⟨d1, d2, d3, d4, d5, d6, d7, d8, d9⟩ := of_decide_eq_true hd
      clear hd hjm hij
      obtain ⟨i049, hi049, _, hsz49, _⟩ := info_parts info49
      have hcut := cut_from (P := Try.prog) 22 49 .i64 Try.underlying22 hi049 4 hsz49 A0 l0.length c0 (j.f0 + 1) (by omega) (by omega)
      generalize hc' : c0 - (j.f0 + 1).toNat = C' at hcut
      have hC := Kd.C_drop (m := (j.f0 + 1).toNat) (c := c0) HR.out (by omega) HC0.out
      rw [List.length_drop, show k49.sz = 4 from rfl] at hC
      generalize (if c0 = (j.f0 + 1).toNat then A0 else Option.map (fun x => x.add ((j.f0 + 1).toNat * 4)) A0) = A' at hcut hC
      obtain ⟨dl, hdl⟩ : ∃ dl, dl = l0.drop (j.f0.toNat + 1) := ⟨_, rfl⟩
      have e1 : (j.f0 + 1).toNat = j.f0.toNat + 1 := by omega
      rw [e1] at hC hcut
      rw [← hdl] at hC
      have hL : l0.length - (j.f0.toNat + 1) = dl.length := by rw [hdl, List.length_drop]
      rw [hL] at hC hcut
      have hL20 : dl.length ≤ 20 := by omega
      have hmem : ∀ t ∈ dl, vldT t = true := fun t ht => HALL.out t (by rw [hdl] at ht; exact List.mem_of_mem_drop ht)
      have HD := Aside0.mk hC
      have HMEM := Aside0.mk hmem
      have HBV : Aside0 (blockV l0 j.f0 = dl.foldl (fun m t => secMax l0 j.f0 m t.f3) 0) := ⟨by rw [hdl]; rfl⟩
      have D4 := Aside0.mk d4
      obtain ⟨W1, hW1⟩ : ∃ W1, W1 = wr.alloc (.cells #[.int .i64 j.f0, .int .i64 j.f1, .int .i64 j.f2, .int .i64 j.f3, .int .i64 j.f4] 34) := ⟨_, rfl⟩
      have B0 : W1.cell? ⟨wr.heap.size, 0, none⟩ = some (.int .i64 j.f0) := by rw [hW1]; exact World.cell?_alloc_new _ _ _ 0
      have B1 : W1.cell? ⟨wr.heap.size, 1, none⟩ = some (.int .i64 j.f1) := by rw [hW1]; exact World.cell?_alloc_new _ _ _ 1
      have B2 : W1.cell? ⟨wr.heap.size, 2, none⟩ = some (.int .i64 j.f2) := by rw [hW1]; exact World.cell?_alloc_new _ _ _ 2
      have B4 : W1.cell? ⟨wr.heap.size, 4, none⟩ = some (.int .i64 j.f4) := by rw [hW1]; exact World.cell?_alloc_new _ _ _ 4
      have HB := Aside0.mk (show W1.cell? ⟨wr.heap.size, 0, none⟩ = some (.int .i64 j.f0) ∧ W1.cell? ⟨wr.heap.size, 1, none⟩ = some (.int .i64 j.f1) ∧ W1.cell? ⟨wr.heap.size, 2, none⟩ = some (.int .i64 j.f2) ∧ W1.cell? ⟨wr.heap.size, 4, none⟩ = some (.int .i64 j.f4) from ⟨B0, B1, B2, B4⟩)
      have HW1 := Aside0.mk (show Below wo.heap.size wo W1 by rw [hW1]; exact HI.out.alloc HI.out.size _)
      clear hi049 hsz49 e1 hdl hL hc' hmem hC d4 B1 B2 B4 HI
      go_wp2_with fail
      rw [← hW1]
      generalize wr.heap.size = bj at B0 HB ⊢
      clear hW1 x0 x1 x2 x3 x4 hcut B0
      rename_i left_
      go_loopw [12, 58] (fun v12 v58 wq => ∃ (m i : Int), v12 = .int .i64 m ∧ v58 = .int .i64 i ∧ 0 ≤ i ∧ i ≤ dl.length ∧ 0 ≤ m ∧ m ≤ 1000 ∧ Aside0 (m = (dl.take i.toNat).foldl (fun m t => secMax l0 j.f0 m t.f3) 0) ∧ Aside0 (Below W1.heap.size W1 wq)) (fun _ v _ => dl.length - (intOf v).toNat)
      case atStart => exact ⟨0, 0, rfl, rfl, by omega, by omega, by omega, by omega, ⟨rfl⟩, ⟨Below.refl _ _⟩⟩
      case round =>
        obtain ⟨m, q, rfl, rfl, q0, q1, m0, m1, HM, HX⟩ := hrel
        by_cases hq : q < dl.length
        · obtain ⟨ad2, A3, c3, hA, x0, x1, x2, x3, x4, x5⟩ := at_T49 HD.out q q0 hq
          subst hA
          have hb := below_step HB4.out (below_step HW1.out HX.out)
          replace x0 := (hb.cell (World.block_lt_of_cell? w _ x0)).trans x0
          replace x1 := (hb.cell (World.block_lt_of_cell? w _ x1)).trans x1
          replace x2 := (hb.cell (World.block_lt_of_cell? w _ x2)).trans x2
          replace x3 := (hb.cell (World.block_lt_of_cell? w _ x3)).trans x3
          have X5 := Aside0.mk x5
          have hsB := HX.out.size
          have hV := HMEM.out _ (rd49_mem q0 hq)
          obtain ⟨v1, v2, _, _, _, _, v7, v8⟩ := vldT_of hV
          have HSEC := Aside0.mk (secB_bd (Int.le_refl 0) v8)
          have HTK := Aside0.mk (take49 q0 hq)
          generalize rd_T49 dl q = t at x0 x1 x2 x3 v1 v2 v7 HSEC X5 HTK
          clear x4 x5 hb hV v8
          obtain ⟨wp, rfl⟩ : ∃ wp : World, wp = wr := ⟨_, rfl⟩
          go_wp2
          clear x0 x1 x2 x3
          go_loopw [12, 65] (fun v12 v65 wq => ∃ (m2 s : Int), v12 = .int .i64 m2 ∧ v65 = .int .i64 s ∧ 0 ≤ s ∧ s ≤ t.f3.length ∧ 0 ≤ m2 ∧ m2 ≤ 1000 ∧ Aside0 (m2 = secMax l0 j.f0 m (t.f3.take s.toNat)) ∧ Aside0 (Below W1.heap.size W1 wq)) (fun _ v _ => t.f3.length - (intOf v).toNat)
          case atStart => exact ⟨m, 0, rfl, rfl, by omega, by omega, m0, m1, ⟨rfl⟩, ⟨HX.out.alloc hsB _⟩⟩
          case round =>
            obtain ⟨m2, s, rfl, rfl, s0, s1, n0, n1, HM2, HX2⟩ := hrel
            by_cases hs : s < t.f3.length
            · obtain ⟨ad3, hA, y0, y1, y2⟩ := at_T68 X5.out s s0 hs
              subst hA
              have hb := below_step HB4.out (below_step HW1.out HX2.out)
              replace y0 := (hb.cell (World.block_lt_of_cell? w _ y0)).trans y0
              replace y1 := (hb.cell (World.block_lt_of_cell? w _ y1)).trans y1
              replace y2 := (hb.cell (World.block_lt_of_cell? w _ y2)).trans y2
              have hsB2 := HX2.out.size
              obtain ⟨g0, g1, g2, g3, g4⟩ := HSEC.out _ (rd68_mem s0 hs)
              have HTK2 := Aside0.mk (take68 s0 hs)
              generalize rd_T68 t.f3 s = sc at y0 y1 y2 g0 g1 g2 g3 g4 HTK2
              clear hb
              have hkey := Maps.keyOf_int_mk Try.underlying3 (wf64 (show -9223372036854775808 ≤ sc.f0 by omega) (by omega))
              have hown := (map_below HO.out (below_step HW1.out HX2.out)).alloc (.cells #[.int .i64 sc.f0, .int .i64 sc.f1, .int .i64 sc.f2] 68)
              have B0 : (wr.alloc (.cells #[.int .i64 sc.f0, .int .i64 sc.f1, .int .i64 sc.f2] 68)).cell? ⟨bj, 0, none⟩ = some (.int .i64 j.f0) := cell_new_ _ (pw_cell_below HX2.out HB.out.1)
              go_wp2_with (at_lookup; refine wpList_lookup_own_int _ rfl _ _ 65 rfl 3 3 .i64 (Maps.int_keyed Try.underlying3) Try.underlying65 Try.underlying3 (HZ.out _) mb (8 * l0.length) _ rfl hown _ _ rfl hkey ?_; intro c hat hwc)
              · have hle : c ≤ j.f0 := by assumption
                have hcF : ceilF l0 sc.f0 = c := lit_int_inj ((ceilL_at l0 sc.f0).symm.trans hat)
                refine ⟨⟨_, s + 1, rfl, rfl, by omega, by omega, ?_, ?_, ⟨?_⟩, ⟨HX2.out.alloc hsB2 _⟩⟩, by simp [intOf]; omega⟩
                · split <;> omega
                · split <;> omega
                · rw [HTK2.out, secMax_snoc, hcF, if_pos hle, ← HM2.out]
                  rfl
              · have hle : j.f0 < c := by assumption
                have hcF : ceilF l0 sc.f0 = c := lit_int_inj ((ceilL_at l0 sc.f0).symm.trans hat)
                refine ⟨⟨m2, s + 1, rfl, rfl, by omega, by omega, n0, n1, ⟨?_⟩, ⟨HX2.out.alloc hsB2 _⟩⟩, by simp [intOf]; omega⟩
                rw [HTK2.out, secMax_snoc, hcF, if_neg (by omega), HM2.out]
            · obtain rfl : s = t.f3.length := by omega
              go_wp2
              refine ⟨⟨m2, q + 1, rfl, rfl, by omega, by omega, n0, n1, ⟨?_⟩, HX2⟩, by simp [intOf]; omega⟩
              have h := HM2.out
              rw [Int.toNat_natCast, List.take_length] at h
              rw [HTK.out, List.foldl_append, ← HM.out]
              exact h
        · obtain rfl : q = dl.length := by omega
          have hm := HM.out
          rw [Int.toNat_natCast, List.take_length, ← HBV.out] at hm
          have d4 : j.f4 ≤ m := by rw [hm]; exact D4.out
          obtain ⟨b0, b1, b2, b4⟩ := HB.out
          have B1 := pw_cell_below HX.out b1
          have B2 := pw_cell_below HX.out b2
          have B4 := pw_cell_below HX.out b4
          clear hm b0 b1 b2 b4 HM
          have dc1 : ¬ j.f4 < 0 := by omega
          have dc2 : ¬ m < j.f4 := by omega
          have dc3 : ¬ j.f2 - j.f1 < j.f4 := by omega
          go_wp2
          exact ⟨⟨i + 1, rfl, by omega, by omega, ⟨below_step HW1.out HX.out⟩⟩, by simp [intOf]; omega⟩
    · obtain rfl : i = jobs.length := by omega
      go_wp2
      go_ret
      exact ⟨rfl, below_step HB4.out HI.out⟩

end Go.Proofs.Ytcmifojplgmgkaa.P
