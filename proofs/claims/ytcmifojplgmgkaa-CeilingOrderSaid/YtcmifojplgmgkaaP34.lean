-- written by wip/drive.py (a driver of this session's own over the kit's print.py)
import Derived.Test.YtcmifojplgmgkaaP0
import Derived.Test.YtcmifojplgmgkaaP5
import Derived.Test.YtcmifojplgmgkaaP16
import Derived.Test.YtcmifojplgmgkaaP28
import Derived.Test.YtcmifojplgmgkaaP30
namespace Go.Proofs.Ytcmifojplgmgkaa.P
open Go.RowKit Go.Proofs.YtcmifojplgmgkaaW.PrintWords Go.Proofs.YtcmifojplgmgkaaW.PrintLast Go.Proofs.YtcmifojplgmgkaaW.PrintMore
attribute [local go_sem] max2_int min2_int max_two min_two max_three min_three max_four min_four   -- for this text's walks alone
set_option linter.unusedVariables false
set_option linter.unusedSimpArgs false

-- PLUG
/-! ### ontimelaw43_CeilingOrder (function 13): by hand: one way -/
/-- The jobs of a simulation, one behind the other: how many of each task, the work, the last end. -/
def ordGo (l : List S49) (rel : List (List Int)) (a : Int) : List S34 → List Nat → Int → Int → Bool
  | [], _, work, en => decide (work ≤ en)
  | j :: r, nx, work, en => decide (0 ≤ j.f0 ∧ j.f0 < l.length ∧ nx.getD j.f0.toNat 0 < (rd_L5 rel j.f0).length ∧ j.f1 = rd (rd_L5 rel j.f0) (nx.getD j.f0.toNat 0 : Nat) ∧ en < j.f3 ∧ j.f3 ≤ a ∧ j.f1 ≤ j.f2 ∧ (rd_T49 l j.f0).f0 ≤ j.f3 - j.f2 ∧ (rd_T49 l j.f0).f0 + j.f4 ≤ j.f3 - j.f1 ∧
      0 ≤ j.f1 ∧ 0 ≤ j.f4 ∧ 0 ≤ (rd_T49 l j.f0).f0 ∧ 0 ≤ work ∧ work ≤ en ∧ 0 ≤ en ∧ nx.getD j.f0.toNat 0 ≤ 1000000) && ordGo l rel a r (nx.set j.f0.toNat (nx.getD j.f0.toNat 0 + 1)) (work + (rd_T49 l j.f0).f0) j.f3
def ordOk (l : List S49) (rel : List (List Int)) (a : Int) (r : List S34 × Int) : Bool := decide (r.2 = 0 ∧ l.length ≤ 20 ∧ rel.length = l.length ∧ a ≤ 100000 ∧ r.1.length ≤ 100000) && ordGo l rel a r.1 (List.replicate l.length 0) 0 0
def ontimelaw43_CeilingOrder.f (k : Nat) (l0 : List S49) (l1 : List (List Int)) (a2 : Int) : Option Bool :=
  (ontimelaw43_awake.f k).bind fun t => if t = true then ((ontimelaw43_fits.f k l0 l1 a2).bind fun g => if g = true then ((ceiling_Simulate.f k l0 l1 a2).bind fun r => if ordOk l0 l1 a2 r = true then some true else none) else some true) else none
set_option maxHeartbeats 8000000 in
set_option maxRecDepth 100000 in
theorem ontimelaw43_CeilingOrder.calls (k : Nat) (A0 : Option Addr) (c0 : Nat) (l0 : List (S49)) (A1 : Option Addr) (c1 : Nat) (l1 : List (List Int)) (a2 : Int) (r : Bool) (w : World) (hr0 : Kd.C k49 w A0 l0.length l0) (hc0 : l0.length ≤ c0)
    (hr1 : Kd.C (Kd.slice 3 (Kd.int .i64)) w A1 l1.length l1) (hc1 : l1.length ≤ c1) (h : ontimelaw43_CeilingOrder.f k l0 l1 a2 = some r) :
    Calls Try.prog 13 #[.slice A0 l0.length c0, .slice A1 l1.length c1, .int .i64 a2] w fun e w' => e = .returned (.bool r) ∧ Below w.heap.size w w' := by
  have hu49 := Try.underlying49
  have hu22 := Try.underlying22
  have hu34 := Try.underlying34
  have HR := Aside0.mk hr0
  have HS := Aside0.mk hr1
  have HC0 := Aside0.mk hc0
  have HC1 := Aside0.mk hc1
  clear hr0 hr1 hc0 hc1
  unfold ontimelaw43_CeilingOrder.f at h
  obtain ⟨t, h1, h⟩ := Option.bind_eq_some_iff.mp h
  cases t with
  | false => rw [if_neg (by simp)] at h; cases h
  | true =>
  rw [if_pos rfl] at h
  have A1 := Aside0.mk h1
  clear h1
  obtain ⟨g, h1, h⟩ := Option.bind_eq_some_iff.mp h
  have A2 := Aside0.mk h1
  clear h1
  cases g with
  | false =>
    rw [if_neg (by simp)] at h
    obtain rfl := Option.some.inj h
    clear h
    go_enter Try.func13, Try.ntmps13
    go_wp2_with fail
    refine (ontimelaw43_awake.calls k true w A1.out).mono ?_
    rintro e w1 ⟨rfl, hb1⟩
    have HB1 := Aside0.mk hb1
    clear hb1
    go_wp2_with fail
    refine (ontimelaw43_fits.calls k _ _ l0 _ _ l1 a2 false w1 (Kd.C_below HR.out HB1.out) HC0.out (Kd.C_below HS.out HB1.out) HC1.out A2.out).mono ?_
    rintro e w2 ⟨rfl, hb2⟩
    have HB2 := Aside0.mk (below_step HB1.out hb2)
    clear hb2
    go_wp2_with fail
    refine (ontimelaw43_awake.calls k true w2 A1.out).mono ?_
    rintro e w3 ⟨rfl, hb3⟩
    have HB3 := Aside0.mk (below_step HB2.out hb3)
    clear hb3
    go_wp2
    go_ret
    exact ⟨rfl, HB3.out⟩
  | true =>
  rw [if_pos rfl] at h
  obtain ⟨⟨jobs, e0⟩, h1, h⟩ := Option.bind_eq_some_iff.mp h
  have A3 := Aside0.mk h1
  clear h1
  by_cases hok : ordOk l0 l1 a2 (jobs, e0) = true
  case neg => rw [if_neg hok] at h; cases h
  rw [if_pos hok] at h
  obtain rfl := Option.some.inj h
  clear h
  unfold ordOk at hok
  rw [Bool.and_eq_true] at hok
  obtain ⟨h2, hgo⟩ := hok
  obtain ⟨he0, hn20, hlen, ha, hjl⟩ := of_decide_eq_true h2
  dsimp only at he0 hgo hjl
  subst he0
  have HGO := Aside0.mk hgo
  have HLEN := Aside0.mk hlen
  clear h2 hgo hlen
  go_enter Try.func13, Try.ntmps13
  go_wp2_with fail
  refine (ontimelaw43_awake.calls k true w A1.out).mono ?_
  rintro e w1 ⟨rfl, hb1⟩
  have HB1 := Aside0.mk hb1
  clear hb1
  go_wp2_with fail
  refine (ontimelaw43_fits.calls k _ _ l0 _ _ l1 a2 true w1 (Kd.C_below HR.out HB1.out) HC0.out (Kd.C_below HS.out HB1.out) HC1.out A2.out).mono ?_
  rintro e w2 ⟨rfl, hb2⟩
  have HB2 := Aside0.mk (below_step HB1.out hb2)
  clear hb2
  go_wp2_with fail
  refine (ceiling_Simulate.calls k _ _ l0 _ _ l1 a2 jobs 0 w2 (Kd.C_below HR.out HB2.out) HC0.out (Kd.C_below HS.out HB2.out) HC1.out A3.out).mono ?_
  rintro e w3 ⟨vj, rfl, hj, hb3⟩
  have HB3 := Aside0.mk (below_step HB2.out hb3)
  obtain ⟨A7, c7, rfl, hc7, _⟩ := Kd.R_reads hj
  have HJ := Aside0.mk (Kd.R_lower hj HB2.out.size)
  clear hb3 hj
  obtain ⟨i3, hi3, hz3, hsz3, hby3⟩ := info_parts info3
  go_wp2_with (at_make; (refine wpList_make_full _ rfl _ _ 38 rfl w.heap.size 3 i3 (.int .i64 0) 1 Try.underlying38 hi3 hz3 hsz3 _ _ _ _ l0.length rfl rfl rfl rfl (by rw [hby3]; omega) (by unfold maxLen; omega) HB3.out.size ?_; intro w4 hnext hg4))
  have hb4 : Below w3.heap.size w3 w4 := ⟨hg4.os, hg4.tape, hg4.output, hg4.size, fun k hk => hg4.block k hk (by simp)⟩
  rw [made_nums] at hnext
  have HI : Aside0 (w4.ownsRow w.heap.size 3 1 (.slice (some ⟨w3.heap.size, 0, none⟩) l0.length l0.length) l0.length (nums64 (List.replicate l0.length 0)) ∧ Kd.R k34 34 w4 w.heap.size (fun _ => True) (.slice A7 jobs.length c7) jobs ∧ Below w.heap.size w w4) :=
    ⟨hnext, Kd.R_below HJ.out hb4, below_step HB3.out hb4⟩
  generalize w3.heap.size = gn at HI ⊢
  clear hnext hg4 hb4 HJ HB3 HB2 HB1 hi3 hz3 hsz3 hby3
  obtain ⟨wo, rfl⟩ : ∃ wo : World, wo = w4 := ⟨_, rfl⟩
  go_wp2_with fail
  go_loopw [10, 11, 39] (fun v10 v11 v39 wr => ∃ (nx : List Nat) (work en i : Int), v10 = .int .i64 work ∧ v11 = .int .i64 en ∧ v39 = .int .i64 i ∧ 0 ≤ i ∧ i ≤ jobs.length ∧ 0 ≤ en ∧ en ≤ 100000 ∧ 0 ≤ work ∧ work ≤ 200000 ∧ nx.length = l0.length ∧ Aside0 (ordGo l0 l1 a2 (jobs.drop i.toNat) nx work en = true) ∧
      Aside0 (wr.ownsRow w.heap.size 3 1 (.slice (some ⟨gn, 0, none⟩) l0.length l0.length) l0.length (nums64 nx) ∧ Kd.R k34 34 wr w.heap.size (fun _ => True) (.slice A7 jobs.length c7) jobs ∧ Below w.heap.size w wr)) (fun _ _ v _ => jobs.length - (intOf v).toNat)
  case atStart => exact ⟨_, 0, 0, 0, rfl, rfl, rfl, by omega, by omega, by omega, by omega, by omega, by omega, by simp, HGO, HI⟩
  case round =>
    clear HI HGO
    obtain ⟨nx, work, en, i, rfl, rfl, rfl, i0, i1, e0, e1, k0, k1, hnl, HG, HI⟩ := hrel
    by_cases hi : i < jobs.length
    · obtain ⟨hnext, hj, hb⟩ := HI.out
      have hij : i.toNat < jobs.length := by omega
      have hjr := (Kd.R_reads' hj).2.2
      obtain ⟨ad, hA, x0, x1, x2, x3, x4⟩ := at_T34 hjr i i0 hi
      subst hA
      have hgo := HG.out
      have hjd : rd_T34 jobs i = jobs[i.toNat] := by
        unfold rd_T34
        rw [List.getD_eq_getElem?_getD, List.getElem?_eq_getElem hij]
        rfl
      rw [List.drop_eq_getElem_cons hij, ← hjd] at hgo
      generalize rd_T34 jobs i = j at x0 x1 x2 x3 x4 hgo
      unfold ordGo at hgo
      rw [Bool.and_eq_true] at hgo
      obtain ⟨hd, hgo⟩ := hgo
      obtain ⟨d1, d2, d3, d4, d5, d6, d7, d8, d9, d10, d11, d12, d13, d14, d15, d16⟩ := of_decide_eq_true hd
      obtain ⟨ad1, A3, c3, hA, y0, _, _, _, _, _⟩ := at_T49 HR.out j.f0 d1 d2
      subst hA
      have oy0 := y0
      replace y0 := (hb.cell (World.block_lt_of_cell? w _ y0)).trans y0
      obtain ⟨ad2, A4, c4, hA, z0, _, hzi⟩ := at_L5 HS.out j.f0 d1 (by have := HLEN.out; omega)
      subst hA
      replace z0 := (hb.cell (World.block_lt_of_cell? w _ z0)).trans z0
      obtain ⟨c, hc⟩ : ∃ c, c = nx.getD j.f0.toNat 0 := ⟨_, rfl⟩
      rw [← hc] at d3 d4 d16 hgo
      obtain ⟨ad3, hA, z1⟩ := Kd.at_int hzi (c : Int) (by omega) (by omega)
      subst hA
      rw [Int.toNat_natCast] at z1
      replace z1 := (hb.cell (World.block_lt_of_cell? w _ z1)).trans z1
      have hcl : j.f0.toNat < nx.length := by omega
      have hcn : nx[j.f0.toNat]? = some c := by
        rw [hc, List.getD_eq_getElem?_getD, List.getElem?_eq_getElem hcl]
        rfl
      have u0 : wr.cell? ⟨gn, j.f0.toNat, none⟩ = some (.int .i64 (c : Int)) := by
        have := hnext.cells (g := gn) rfl j.f0.toNat (.int .i64 (c : Int)) (by unfold nums64; rw [List.getElem?_map, hcn]; rfl)
        rwa [add_plain] at this
      have f0 := hnext.frozenAt j.f0.toNat
      rw [← d4] at z1
      have hneq : (j.f1 != j.f1) = false := by simp
      have HGO := Aside0.mk hgo
      have HI2 := HI
      generalize (rd_L5 l1 j.f0).length = tl at z0 d3
      generalize (rd_T49 l0 j.f0).f0 = cost at y0 oy0 d8 d9 d12 HGO
      clear hnext hj hb hjr hjd hd hgo hc hcn hzi d4 HG HI hij
      go_wp2_with fail
      obtain ⟨W1, hW1⟩ : ∃ W1, W1 = wr.alloc (.cells #[.int .i64 j.f0, .int .i64 j.f1, .int .i64 j.f2, .int .i64 j.f3, .int .i64 j.f4] 34) := ⟨_, rfl⟩
      have B0 : W1.cell? ⟨wr.heap.size, 0, none⟩ = some (.int .i64 j.f0) := by rw [hW1]; exact World.cell?_alloc_new _ _ _ 0
      have B1 : W1.cell? ⟨wr.heap.size, 1, none⟩ = some (.int .i64 j.f1) := by rw [hW1]; exact World.cell?_alloc_new _ _ _ 1
      have B2 : W1.cell? ⟨wr.heap.size, 2, none⟩ = some (.int .i64 j.f2) := by rw [hW1]; exact World.cell?_alloc_new _ _ _ 2
      have B3 : W1.cell? ⟨wr.heap.size, 3, none⟩ = some (.int .i64 j.f3) := by rw [hW1]; exact World.cell?_alloc_new _ _ _ 3
      have B4 : W1.cell? ⟨wr.heap.size, 4, none⟩ = some (.int .i64 j.f4) := by rw [hW1]; exact World.cell?_alloc_new _ _ _ 4
      have Y0 : W1.cell? (ad1.add (j.f0.toNat * 4)) = some (.int .i64 cost) := by rw [hW1]; exact cell_new_ _ y0
      have Z0 : W1.cell? (ad2.add j.f0.toNat) = some (.slice (some ad3) tl c4) := by rw [hW1]; exact cell_new_ _ z0
      have Z1 : W1.cell? (ad3.add c) = some (.int .i64 j.f1) := by rw [hW1]; exact cell_new_ _ z1
      have U0 : W1.cell? ⟨gn, j.f0.toNat, none⟩ = some (.int .i64 (c : Int)) := by rw [hW1]; exact cell_new_ _ u0
      have HW1 := Aside0.mk (show Below wr.heap.size wr W1 by rw [hW1]; exact (Below.refl _ _).alloc (Nat.le_refl _) _)
      have hgb : gn < wr.heap.size := World.block_lt_of_cell? wr _ u0
      have hgne : gn ≠ wr.heap.size := Nat.ne_of_lt (World.block_lt_of_cell? wr _ u0)
      rw [← hW1]
      generalize hbj : wr.heap.size = bj at B0 B1 B2 B3 B4 hgne hgb HW1 ⊢
      clear hW1 x0 x1 x2 x3 x4 y0 z0 z1 u0 f0
      have d2' : j.f0 < (l1.length : Int) := by have := HLEN.out; omega
      have db1 : decide (j.f0 < 0) = false := decide_eq_false (by omega)
      have db2 : decide ((l0.length : Int) ≤ j.f0) = false := decide_eq_false (by omega)
      have db3 : decide ((tl : Int) ≤ (c : Int)) = false := decide_eq_false (by omega)
      have dc1 : ¬ j.f0 < 0 := by omega
      have hoy : ad1.block ≠ gn := by
        have h1 := World.block_lt_of_cell? w _ oy0
        rw [add_block] at h1
        have := (HI2.out.1.lt gn rfl).1
        omega
      have farW : ∀ (p : Addr) (v : Value), p.block ≠ gn → W1.cell? p = some v → ((W1.setCell ⟨gn, j.f0.toNat, none⟩ (.int .i64 ((c : Int) + 1))).drew).cell? p = some v := fun p v hp h => (World.cell?_setCell_other _ _ _ _ (fun e => hp (by rw [← e]))).trans h
      have C0 := farW _ _ (show (⟨bj, 0, none⟩ : Addr).block ≠ gn from fun e => hgne e.symm) B0
      have C1 := farW _ _ (show (⟨bj, 1, none⟩ : Addr).block ≠ gn from fun e => hgne e.symm) B1
      have C2 := farW _ _ (show (⟨bj, 2, none⟩ : Addr).block ≠ gn from fun e => hgne e.symm) B2
      have C3 := farW _ _ (show (⟨bj, 3, none⟩ : Addr).block ≠ gn from fun e => hgne e.symm) B3
      have C4 := farW _ _ (show (⟨bj, 4, none⟩ : Addr).block ≠ gn from fun e => hgne e.symm) B4
      have D0 := farW _ _ (show (ad1.add (j.f0.toNat * 4)).block ≠ gn by rw [add_block]; exact hoy) Y0
      have fz : W1.drew.frozen? ⟨gn, j.f0.toNat, none⟩ = false := (HW1.out.frozen (p := ⟨gn, j.f0.toNat, none⟩) hgb).trans (HI2.out.1.frozenAt j.f0.toNat)
      clear farW Y0 oy0
      have dc2 : ¬ (l0.length : Int) ≤ j.f0 := by omega
      have dc3 : ¬ (tl : Int) ≤ (c : Int) := by omega
      go_region_held3 (fun w' => w'.cell? ⟨bj, 0, none⟩ = some (.int .i64 j.f0) ∧ w'.cell? ⟨bj, 1, none⟩ = some (.int .i64 j.f1) ∧ w'.cell? ⟨gn, j.f0.toNat, none⟩ = some (.int .i64 (c : Int)) ∧ w'.cell? (ad2.add j.f0.toNat) = some (.slice (some ad3) tl c4) ∧ w'.cell? (ad3.add c) = some (.int .i64 j.f1)) (first | exact ⟨B0, B1, U0, Z0, Z1⟩ | go_keep) (fail)
      go_wp2_with fail
      have hW1 : Below wr.heap.size wr W1 := by rw [hbj]; exact HW1.out
      have hce : ((c + 1 : Nat) : Int) = (c : Int) + 1 := by omega
      have hown1 : W1.ownsRow w.heap.size 3 1 (.slice (some ⟨gn, 0, none⟩) l0.length l0.length) l0.length (nums64 nx) := own_move HI2.out.1 (fun k hk => hW1.block k (own_lt HI2.out.1 k hk))
      have hown2 := (hown1.stored j.f0.toNat (.int .i64 ((c + 1 : Nat) : Int))).1
      have e2 : nums64 (nx.set j.f0.toNat (c + 1)) = (nums64 nx).set j.f0.toNat (.int .i64 ((c + 1 : Nat) : Int)) := by unfold nums64; rw [List.map_set]
      rw [← e2, hce] at hown2
      obtain ⟨cs3, hcs3⟩ := own_typed hown1 gn rfl
      have hj2 := Kd.R_set (Kd.R_below HI2.out.2.1 hW1) hcs3 (by decide) j.f0.toNat (.int .i64 ((c : Int) + 1))
      have hb2 : Below w.heap.size w (W1.setCell ⟨gn, j.f0.toNat, none⟩ (.int .i64 ((c : Int) + 1))).drew := ((below_step HI2.out.2.2 hW1).setCell (p := ⟨gn, j.f0.toNat, none⟩) (HI2.out.1.lt gn rfl).1 _).drew
      exact ⟨⟨nx.set j.f0.toNat (c + 1), work + cost, j.f3, i + 1, rfl, rfl, rfl, by omega, by omega, by omega, by omega, by omega, by omega, by rw [List.length_set]; exact hnl, ⟨by rw [show (i + 1).toNat = i.toNat + 1 by omega]; exact HGO.out⟩, ⟨hown2, hj2, hb2⟩⟩, by simp [intOf]; omega⟩
    · have hie : i.toNat = jobs.length := by omega
      have hgo := HG.out
      rw [hie, List.drop_length] at hgo
      unfold ordGo at hgo
      have hwe := of_decide_eq_true hgo
      have hwb : decide (work ≤ en) = true := decide_eq_true hwe
      clear hgo hie
      go_wp2
      go_ret
      exact ⟨by simp [hwe], HI.out.2.2⟩

end Go.Proofs.Ytcmifojplgmgkaa.P
