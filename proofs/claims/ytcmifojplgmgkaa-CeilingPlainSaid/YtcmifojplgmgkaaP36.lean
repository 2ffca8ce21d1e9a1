-- written by wip/drive.py (a driver of this session's own over the kit's print.py)
import Derived.Test.YtcmifojplgmgkaaP0
import Derived.Test.YtcmifojplgmgkaaP16
import Derived.Test.YtcmifojplgmgkaaP28
import Derived.Test.YtcmifojplgmgkaaP30
namespace Go.Proofs.Ytcmifojplgmgkaa.P
open Go.RowKit Go.Proofs.YtcmifojplgmgkaaW.PrintWords Go.Proofs.YtcmifojplgmgkaaW.PrintLast Go.Proofs.YtcmifojplgmgkaaW.PrintMore
attribute [local go_sem] max2_int min2_int max_two min_two max_three min_three max_four min_four   -- for this text's walks alone
set_option linter.unusedVariables false
set_option linter.unusedSimpArgs false

-- PLUG
/-! ### ontimelaw43_CeilingPlain (function 15): the print's own proof, and one fact on a cell that is written twice -/
mutual
def ontimelaw43_CeilingPlain.l0 : Nat → List (List Int) → Int → Int → List (S49) → List (S49) → Int → Int → Option (Bool)
  | 0, _, _, _, _, _, _, _ => none
  | k + 1, x1, x2, x3, x9, x20, x21, x22 => if x22 < x21 then (if 0 ≤ x22 then (if x22 < (x20.length : Int) then (if x9.length < 2932031007402 then (ontimelaw43_CeilingPlain.l0 k x1 x2 x3 (x9 ++ [(⟨(rd_T49 x20 x22).f0, (rd_T49 x20 x22).f1, (rd_T49 x20 x22).f2, ([] : List (S68))⟩ : S49)]) x20 x21 (wrap64 (x22 + 1))) else (none)) else (none)) else (none)) else ((ontimelaw43_awake.f k).bind fun t486 => (if t486 = true then ((ontimelaw43_fits.f k x9 x1 x2).bind fun t487 => (ontimelaw43_CeilingPlain.j1 k x1 x2 x3 x9 (!t487))) else (ontimelaw43_CeilingPlain.j1 k x1 x2 x3 x9 true)))
def ontimelaw43_CeilingPlain.j1 : Nat → List (List Int) → Int → Int → List (S49) → Bool → Option (Bool)
  | 0, _, _, _, _, _ => none
  | k + 1, x1, x2, x3, x9, x40 => if x40 = true then ((ontimelaw43_awake.f k).bind fun t488 => (some t488)) else ((ceiling_Simulate.f k x9 x1 x2).bind fun bt489 => (if (wrap64 ((x9.length : Int) + 1)) = 0 then (none) else (if 0 ≤ (Int.tmod (wrap64 (x3)) (wrap64 ((x9.length : Int) + 1))) then (if (Int.tmod (wrap64 (x3)) (wrap64 ((x9.length : Int) + 1))) ≤ (x9.length : Int) then (if (Int.tmod (wrap64 (x3)) (wrap64 ((x9.length : Int) + 1))) ≤ (x1.length : Int) then ((ceiling_Simulate.f k (x9.take ((Int.tmod (wrap64 (x3)) (wrap64 ((x9.length : Int) + 1))) : Int).toNat) (x1.take ((Int.tmod (wrap64 (x3)) (wrap64 ((x9.length : Int) + 1))) : Int).toNat) x2).bind fun bt501 => (ontimelaw43_CeilingPlain.l1 k bt489.2 (Int.tmod (wrap64 (x3)) (wrap64 ((x9.length : Int) + 1))) bt501.1 bt501.2 ([] : List (S34)) bt489.1 (bt489.1.length : Int) 0)) else (none)) else (none)) else (none))))
def ontimelaw43_CeilingPlain.l1 : Nat → Int → Int → List (S34) → Int → List (S34) → List (S34) → Int → Int → Option (Bool)
  | 0, _, _, _, _, _, _, _, _ => none
  | k + 1, x13, x14, x15, x16, x17, x66, x67, x68 => if x68 < x67 then (if 0 ≤ x68 then (if x68 < (x66.length : Int) then (if ((rd_T34 x66 x68).f4) = 0 then (if ((rd_T34 x66 x68).f0) < x14 then (if x17.length < 3518437208883 then (ontimelaw43_CeilingPlain.l1 k x13 x14 x15 x16 (x17 ++ [(⟨(rd_T34 x66 x68).f0, (rd_T34 x66 x68).f1, (rd_T34 x66 x68).f2, (rd_T34 x66 x68).f3, (rd_T34 x66 x68).f4⟩ : S34)]) x66 x67 (wrap64 (x68 + 1))) else (none)) else (ontimelaw43_CeilingPlain.l1 k x13 x14 x15 x16 x17 x66 x67 (wrap64 (x68 + 1)))) else (some false)) else (none)) else (none)) else (if x13 = 0 then (if x16 = 0 then ((ceiling_Job.f k x17 x15).bind fun t505 => (some t505)) else (some false)) else (some false))
end
def ontimelaw43_CeilingPlain.f (k : Nat) (l0 : List (S49)) (l1 : List (List Int)) (a2 : Int) (a3 : Int) : Option (Bool) := ontimelaw43_CeilingPlain.l0 k l1 a2 a3 ([] : List (S49)) l0 (l0.length : Int) 0
theorem ontimelaw43_CeilingPlain.mono_l : ∀ k, (∀ y0 y1 y2 y3 y4 y5 y6, LeO (ontimelaw43_CeilingPlain.l0 k y0 y1 y2 y3 y4 y5 y6) (ontimelaw43_CeilingPlain.l0 (k + 1) y0 y1 y2 y3 y4 y5 y6)) ∧ (∀ y0 y1 y2 y3 y4, LeO (ontimelaw43_CeilingPlain.j1 k y0 y1 y2 y3 y4) (ontimelaw43_CeilingPlain.j1 (k + 1) y0 y1 y2 y3 y4)) ∧ (∀ y0 y1 y2 y3 y4 y5 y6 y7, LeO (ontimelaw43_CeilingPlain.l1 k y0 y1 y2 y3 y4 y5 y6 y7) (ontimelaw43_CeilingPlain.l1 (k + 1) y0 y1 y2 y3 y4 y5 y6 y7))
  | 0 => ⟨fun _ _ _ _ _ _ _ r h => by simp [ontimelaw43_CeilingPlain.l0] at h, fun _ _ _ _ _ r h => by simp [ontimelaw43_CeilingPlain.j1] at h, fun _ _ _ _ _ _ _ _ r h => by simp [ontimelaw43_CeilingPlain.l1] at h⟩
  | k + 1 => by
    obtain ⟨ih0, ih1, ih2⟩ := ontimelaw43_CeilingPlain.mono_l k
    refine ⟨?_, ?_, ?_⟩
    · intro y0 y1 y2 y3 y4 y5 y6
      unfold ontimelaw43_CeilingPlain.l0
      repeat' first
      | (with_reducible exact ih0 _ _ _ _ _ _ _)
      | (with_reducible exact ih1 _ _ _ _ _)
      | (with_reducible exact ih2 _ _ _ _ _ _ _ _)
      | (with_reducible exact ceiling_Job.mono _ _ _)
      | (with_reducible exact ceiling_Simulate.mono _ _ _ _)
      | (with_reducible exact ontimelaw43_awake.mono _)
      | (with_reducible exact ontimelaw43_fits.mono _ _ _ _)
      | (with_reducible exact LeO.refl _)
      | (with_reducible exact LeO.none _)
      | (with_reducible refine LeO.ite ?_ ?_)
      | (with_reducible refine LeO.bind ?_ (fun _ => ?_))
      | exact ih0 _ _ _ _ _ _ _
      | exact ih1 _ _ _ _ _
      | exact ih2 _ _ _ _ _ _ _ _
      | exact ceiling_Job.mono _ _ _
      | exact ceiling_Simulate.mono _ _ _ _
      | exact ontimelaw43_awake.mono _
      | exact ontimelaw43_fits.mono _ _ _ _
      | exact LeO.none _
      | refine LeO.ite ?_ ?_
      | refine LeO.bind ?_ (fun _ => ?_)
    · intro y0 y1 y2 y3 y4
      unfold ontimelaw43_CeilingPlain.j1
      repeat' first
      | (with_reducible exact ih0 _ _ _ _ _ _ _)
      | (with_reducible exact ih1 _ _ _ _ _)
      | (with_reducible exact ih2 _ _ _ _ _ _ _ _)
      | (with_reducible exact ceiling_Job.mono _ _ _)
      | (with_reducible exact ceiling_Simulate.mono _ _ _ _)
      | (with_reducible exact ontimelaw43_awake.mono _)
      | (with_reducible exact ontimelaw43_fits.mono _ _ _ _)
      | (with_reducible exact LeO.refl _)
      | (with_reducible exact LeO.none _)
      | (with_reducible refine LeO.ite ?_ ?_)
      | (with_reducible refine LeO.bind ?_ (fun _ => ?_))
      | exact ih0 _ _ _ _ _ _ _
      | exact ih1 _ _ _ _ _
      | exact ih2 _ _ _ _ _ _ _ _
      | exact ceiling_Job.mono _ _ _
      | exact ceiling_Simulate.mono _ _ _ _
      | exact ontimelaw43_awake.mono _
      | exact ontimelaw43_fits.mono _ _ _ _
      | exact LeO.none _
      | refine LeO.ite ?_ ?_
      | refine LeO.bind ?_ (fun _ => ?_)
    · intro y0 y1 y2 y3 y4 y5 y6 y7
      unfold ontimelaw43_CeilingPlain.l1
      repeat' first
      | (with_reducible exact ih0 _ _ _ _ _ _ _)
      | (with_reducible exact ih1 _ _ _ _ _)
      | (with_reducible exact ih2 _ _ _ _ _ _ _ _)
      | (with_reducible exact ceiling_Job.mono _ _ _)
      | (with_reducible exact ceiling_Simulate.mono _ _ _ _)
      | (with_reducible exact ontimelaw43_awake.mono _)
      | (with_reducible exact ontimelaw43_fits.mono _ _ _ _)
      | (with_reducible exact LeO.refl _)
      | (with_reducible exact LeO.none _)
      | (with_reducible refine LeO.ite ?_ ?_)
      | (with_reducible refine LeO.bind ?_ (fun _ => ?_))
      | exact ih0 _ _ _ _ _ _ _
      | exact ih1 _ _ _ _ _
      | exact ih2 _ _ _ _ _ _ _ _
      | exact ceiling_Job.mono _ _ _
      | exact ceiling_Simulate.mono _ _ _ _
      | exact ontimelaw43_awake.mono _
      | exact ontimelaw43_fits.mono _ _ _ _
      | exact LeO.none _
      | refine LeO.ite ?_ ?_
      | refine LeO.bind ?_ (fun _ => ?_)
theorem ontimelaw43_CeilingPlain.mono : ∀ a0 a1 a2 a3 k, LeO (ontimelaw43_CeilingPlain.f k a0 a1 a2 a3) (ontimelaw43_CeilingPlain.f (k + 1) a0 a1 a2 a3) := by
  intro a0 a1 a2 a3 k
  obtain ⟨ih0, ih1, ih2⟩ := ontimelaw43_CeilingPlain.mono_l k
  unfold ontimelaw43_CeilingPlain.f
  repeat' first
      | (with_reducible exact ih0 _ _ _ _ _ _ _)
      | (with_reducible exact ih1 _ _ _ _ _)
      | (with_reducible exact ih2 _ _ _ _ _ _ _ _)
      | (with_reducible exact ceiling_Job.mono _ _ _)
      | (with_reducible exact ceiling_Simulate.mono _ _ _ _)
      | (with_reducible exact ontimelaw43_awake.mono _)
      | (with_reducible exact ontimelaw43_fits.mono _ _ _ _)
      | (with_reducible exact LeO.refl _)
      | (with_reducible exact LeO.none _)
      | (with_reducible refine LeO.ite ?_ ?_)
      | (with_reducible refine LeO.bind ?_ (fun _ => ?_))
      | exact ih0 _ _ _ _ _ _ _
      | exact ih1 _ _ _ _ _
      | exact ih2 _ _ _ _ _ _ _ _
      | exact ceiling_Job.mono _ _ _
      | exact ceiling_Simulate.mono _ _ _ _
      | exact ontimelaw43_awake.mono _
      | exact ontimelaw43_fits.mono _ _ _ _
      | exact LeO.none _
      | refine LeO.ite ?_ ?_
      | refine LeO.bind ?_ (fun _ => ?_)
def ontimelaw43_CeilingPlain.T12 : Bool × List (List Nat × List Nat) := (true, [([], []), ([], []), ([0, 1], [0, 1]), ([], []), ([], []), ([3, 4], [3, 4]), ([], []), ([2, 5, 6], [2, 5, 6]), ([7], [7]), ([8], [8]), ([8], [8]), ([9, 7, 0, 1, 2, 3, 4, 5, 6, 7, 8, 9], [9]), ([10, 11, 0, 1, 2, 3, 4, 5, 6, 7, 8, 9, 10, 11], [10])])
def ontimelaw43_CeilingPlain.B12 : List Nat := [0, 0, 3, 0, 0, 24, 0, 127, 255, 511, 511, 1023, 4095]
theorem ontimelaw43_CeilingPlain.tab12 : rtab .any (opsOf Try.f15 12) = ontimelaw43_CeilingPlain.T12 := by kernel_rfl
theorem ontimelaw43_CeilingPlain.bits12 : waitsOk ontimelaw43_CeilingPlain.T12.2 ontimelaw43_CeilingPlain.B12 = true := by kernel_rfl
set_option maxHeartbeats 8000000 in
set_option maxRecDepth 100000 in
theorem ontimelaw43_CeilingPlain.calls (k : Nat) (A0 : Option Addr) (c0 : Nat) (l0 : List (S49)) (A1 : Option Addr) (c1 : Nat) (l1 : List (List Int)) (a2 : Int) (a3 : Int) (r : Bool) (w : World) (hr0 : Kd.C k49 w A0 l0.length l0) (hc0 : l0.length ≤ c0) (hr1 : Kd.C (Kd.slice 3 (Kd.int .i64)) w A1 l1.length l1) (hc1 : l1.length ≤ c1) (h : ontimelaw43_CeilingPlain.f k l0 l1 a2 a3 = some r) :
    Calls Try.prog 15 #[.slice A0 l0.length c0, .slice A1 l1.length c1, .int .i64 a2, .int .u8 a3] w fun e w' => e = .returned (.bool r) ∧ Below w.heap.size w w' := by
  have hu49 := Try.underlying49
  have hu34 := Try.underlying34
  have HR0 := Aside0.mk hr0
  have HC0 := Aside0.mk hc0
  clear hr0 hc0
  have HR1 := Aside0.mk hr1
  have HC1 := Aside0.mk hc1
  clear hr1 hc1
  have HB := Aside0.mk (Below.refl w.heap.size w)
  have H : (ontimelaw43_CeilingPlain.l0 k l1 a2 a3 ([] : List (S49)) l0 (l0.length : Int) 0) = some r := h
  clear h
  have H' := Aside0.mk H
  clear H
  go_enter Try.func15, Try.ntmps15
  go_wp2
  go_loopg [9, 22] k (fun kq v9 v22 w' => ∃ (x9_1 : List (S49)) (x22_1 : Int), v22 = .int .i64 x22_1 ∧ Aside0 (ontimelaw43_CeilingPlain.l0 kq l1 a2 a3 x9_1 l0 (l0.length : Int) x22_1 = some r) ∧ Aside0 (kq ≤ k) ∧ Aside0 (Kd.S k49 49 w' w.heap.size (fun _ => True) v9 x9_1) ∧ Aside0 (Below w.heap.size w w'))
  case atStart => exact ⟨(([] : List (S49))), (0), (by first | rfl | (simp; done) | (simp [*]; done)), H', ⟨Nat.le_refl _⟩, ⟨by first | exact Kd.S_nil _ _ _ _ _ | exact Kd.N_nil _ _ _ _ _ | exact Kd.V_nil _ _ _ _ _ | exact Kd.Q_nil _ _ _ _ _ | exact Kd.R_nil _ _ _ _ _⟩, ⟨by repeat (first | (with_reducible first | exact HB.out | apply below_alloc | apply pw_below_drewN | apply below_drew1) | exact HB.out)⟩⟩
  case round =>
    clear H'
    try clear c1
    try clear p2
    obtain ⟨x9_1, x22_1, rfl, HA, HK1, HO_9, HB⟩ := hrel
    cases gk with
    | zero => exact absurd HA.out (by simp [ontimelaw43_CeilingPlain.l0])
    | succ k1 =>
      have H := HA.out
      clear HA
      simp only [ontimelaw43_CeilingPlain.l0] at H
      by_cases c5 : x22_1 < (l0.length : Int)
      · rw [if_pos c5] at H
        have c5b0 : decide (x22_1 < (l0.length : Int)) = true := decide_eq_true c5
        clear c5
        by_cases c6 : 0 ≤ x22_1
        · rw [if_pos c6] at H
          have c6b0 : decide (0 ≤ x22_1) = true := decide_eq_true c6
          clear c6
          by_cases c7 : x22_1 < (l0.length : Int)
          · rw [if_pos c7] at H
            have c7b0 : decide (x22_1 < (l0.length : Int)) = true := decide_eq_true c7
            clear c7
            by_cases c8 : x9_1.length < 2932031007402
            · rw [if_pos c8] at H
              have LMc8 := Aside0.mk c8
              clear c8
              obtain ⟨y483, hy483⟩ : ∃ y_ : List (S49), y_ = (x9_1 ++ [(⟨(rd_T49 l0 x22_1).f0, (rd_T49 l0 x22_1).f1, (rd_T49 l0 x22_1).f2, ([] : List (S68))⟩ : S49)]) := ⟨_, rfl⟩
              replace H : (ontimelaw43_CeilingPlain.l0 k1 l1 a2 a3 y483 l0 (l0.length : Int) (wrap64 (x22_1 + 1))) = some r := by first | (rw [hy483]; with_reducible exact H) | (have H2_ := (Option.bind_some _ _).symm.trans H; rw [hy483]; with_reducible exact H2_) | (have H2_ := (Option.bind_some _ _).symm.trans H; with_reducible exact H2_) | with_reducible exact H | (rw [hy483]; exact H) | exact H
              have Ny483 := Aside0.mk hy483
              clear hy483
              have H' := Aside0.mk H
              clear H
              have p481 : 0 ≤ (x22_1 : Int) := of_decide_eq_true (by first | (with_reducible assumption) | assumption)
              have q481 : x22_1 < (l0.length : Int) := of_decide_eq_true (by first | (with_reducible assumption) | assumption)
              obtain ⟨ad481, A481_3, c481_3, e481, hx481_0, hx481_1, hx481_2, hx481_3, hl481_3, hi481_3⟩ := at_T49 HR0.out x22_1 p481 q481
              cases e481
              replace hx481_0 := (HB.out.cell (World.block_lt_of_cell? w _ hx481_0)).trans hx481_0
              replace hx481_1 := (HB.out.cell (World.block_lt_of_cell? w _ hx481_1)).trans hx481_1
              replace hx481_2 := (HB.out.cell (World.block_lt_of_cell? w _ hx481_2)).trans hx481_2
              replace hx481_3 := (HB.out.cell (World.block_lt_of_cell? w _ hx481_3)).trans hx481_3
              have HR481_3 := Aside0.mk hi481_3
              have HC481_3 := Aside0.mk hl481_3
              clear hi481_3 hl481_3
              replace p481 := eq_true p481
              replace q481 := eq_true q481
              go_wp2_with (first | ((with_reducible refine gate_dst (N := 11) rfl ?_); refine box_event ?hg (N := 11) ?hd (cs := #[.int .i64 0, .int .i64 0, .int .i64 0, .slice none 0 0]) (t := 49) ?hr ?_; (case hd => rfl); (case hg => rfl); (case hr => first | (go_simp; done) | (go_simp; rfl)); intro gb482 hg w9 hbox hb; have n0_ := Aside0.mk (Kd.S_below (Kd.S_elderB (by (with_reducible repeat (first | apply Kd.S_alloc | apply Kd.S_drewN | apply Kd.S_drew)); exact HO_9.out) gb482 (Nat.le_of_eq hg.symm)) hb); have n1_ := Aside0.mk (below_step (by repeat (first | (with_reducible first | exact HB.out | apply below_alloc | apply pw_below_drewN | apply below_drew1) | exact HB.out)) hb); have n2_ := Aside0.mk (hbox); have n3_ := Aside0.mk ((by rw [hg]; exact (below_size (by repeat (first | (with_reducible first | exact HB.out | apply below_alloc | apply pw_below_drewN | apply below_drew1) | exact HB.out))) : w.heap.size ≤ gb482)); have n4_ := Aside0.mk ((by rw [hg]; exact (below_size (by repeat (first | (with_reducible first | exact HB.out | apply below_alloc | apply pw_below_drewN | apply below_drew1) | exact HB.out))) : w.heap.size ≤ gb482)); clear HO_9; clear HB; have HO_9 := n0_; have HB := n1_; have BK482 := n2_; have GW482 := n3_; have GE482 := n4_; clear n0_ n1_ n2_ n3_ n4_; clear hb hbox hg; have hcz10_0 : w9.cell? ⟨gb482, 0, none⟩ = some (.int .i64 0) := (blk_cell BK482.out 0).trans rfl; have hcz10_1 : w9.cell? ⟨gb482, 1, none⟩ = some (.int .i64 0) := (blk_cell BK482.out 1).trans rfl; have hcz10_2 : w9.cell? ⟨gb482, 2, none⟩ = some (.int .i64 0) := (blk_cell BK482.out 2).trans rfl; have hcz10_3 : w9.cell? ⟨gb482, 3, none⟩ = some (.slice none 0 0) := (blk_cell BK482.out 3).trans rfl; have hcz10_4 : (((((w9.setCell ⟨gb482, 0, none⟩ (.int .i64 (rd_T49 l0 x22_1).f0)).setCell ⟨gb482, 1, none⟩ (.int .i64 (rd_T49 l0 x22_1).f1)).setCell ⟨gb482, 2, none⟩ (.int .i64 (rd_T49 l0 x22_1).f2)).setCell ⟨gb482, 3, none⟩ (.slice A481_3 (rd_T49 l0 x22_1).f3.length c481_3)).setCell ⟨gb482, 3, none⟩ (.slice none 0 0)).cell? ⟨gb482, 3, none⟩ = some (.slice none 0 0) := World.cell?_setCell_same _ _ _ (World.cell?_setCell_same _ _ _ (((World.cell?_setCell_other _ _ _ _ (by simp)).trans ((World.cell?_setCell_other _ _ _ _ (by simp)).trans (World.cell?_setCell_other _ _ _ _ (by simp)))).trans hcz10_3)); have hfz10_0 := blk_frozen BK482.out 0; have hfz10_1 := blk_frozen BK482.out 1; have hfz10_2 := blk_frozen BK482.out 2; have hfz10_3 := blk_frozen BK482.out 3) | ((with_reducible refine gate_builtin (b := .append) (xs := #[.tmp 27, .tmp 29]) rfl ?_); at_builtin; refine Kd.S_append k49 (w0 := w) w.heap.size rfl (.tmp 27) (.tmp 29) 22 49 (.agg #[(.int .i64 0), (.int .i64 0), (.int .i64 0), (.slice none 0 0)]) 48 rfl Try.underlying22 info49 rfl (by decide) (by omega) u9 x9_1 (⟨(rd_T49 l0 x22_1).f0, (rd_T49 l0 x22_1).f1, (rd_T49 l0 x22_1).f2, ([] : List (S68))⟩ : S49) [.int .i64 ((rd_T49 l0 x22_1).f0), .int .i64 ((rd_T49 l0 x22_1).f1), .int .i64 ((rd_T49 l0 x22_1).f2), .slice none 0 0] (fun k_ => k_ ≠ gb482) (fun _ => False) rfl (by first | (go_simp; done) | (go_simp; rfl)) ?aP (fun k_ hk_ => hk_.elim) ?aF ?aO ?aB ?aS ?aL ?_; (case aP => exact k49_mkM _ _ _ (⟨(rd_T49 l0 x22_1).f0, (rd_T49 l0 x22_1).f1, (rd_T49 l0 x22_1).f2, ([] : List (S68))⟩ : S49) (Kd.R_nil _ _ _ _ _)); (case aB => exact (by repeat (first | (with_reducible first | exact HB.out | apply below_alloc | apply pw_below_drewN | apply below_drew1 | refine below_set ?_ GE482.out) | exact HB.out))); (case aF => exact (fun k_ hk => Kd.freshB (g := gb482) (o := .cells #[.int .i64 ((rd_T49 l0 x22_1).f0), .int .i64 ((rd_T49 l0 x22_1).f1), .int .i64 ((rd_T49 l0 x22_1).f2), .slice none 0 0] 49 (0, 0)) (by (with_reducible repeat (first | refine blk_drewN ?_ _ | refine blk_drew ?_ | refine blk_alloc ?_ _)); refine blk_put (cs := #[.int .i64 ((rd_T49 l0 x22_1).f0), .int .i64 ((rd_T49 l0 x22_1).f1), .int .i64 ((rd_T49 l0 x22_1).f2), .slice A481_3 ((rd_T49 l0 x22_1).f3).length c481_3]) ?_ 3 _ rfl; (with_reducible repeat (first | refine blk_drewN ?_ _ | refine blk_drew ?_ | refine blk_alloc ?_ _)); refine blk_put (cs := #[.int .i64 ((rd_T49 l0 x22_1).f0), .int .i64 ((rd_T49 l0 x22_1).f1), .int .i64 ((rd_T49 l0 x22_1).f2), .slice none 0 0]) ?_ 3 _ rfl; (with_reducible repeat (first | refine blk_drewN ?_ _ | refine blk_drew ?_ | refine blk_alloc ?_ _)); refine blk_put (cs := #[.int .i64 ((rd_T49 l0 x22_1).f0), .int .i64 ((rd_T49 l0 x22_1).f1), .int .i64 0, .slice none 0 0]) ?_ 2 _ rfl; (with_reducible repeat (first | refine blk_drewN ?_ _ | refine blk_drew ?_ | refine blk_alloc ?_ _)); refine blk_put (cs := #[.int .i64 ((rd_T49 l0 x22_1).f0), .int .i64 0, .int .i64 0, .slice none 0 0]) ?_ 1 _ rfl; (with_reducible repeat (first | refine blk_drewN ?_ _ | refine blk_drew ?_ | refine blk_alloc ?_ _)); refine blk_put (cs := #[.int .i64 0, .int .i64 0, .int .i64 0, .slice none 0 0]) ?_ 0 _ rfl; (with_reducible repeat (first | refine blk_drewN ?_ _ | refine blk_drew ?_ | refine blk_alloc ?_ _)); exact BK482.out) k_ hk)); (case aO => exact (by (with_reducible repeat (first | apply Kd.S_alloc | apply Kd.S_drewN | apply Kd.S_drew)); exact Kd.S_mono (Kd.S_far (p := ⟨gb482, 3, none⟩) (Kd.S_far (p := ⟨gb482, 3, none⟩) (Kd.S_far (p := ⟨gb482, 2, none⟩) (Kd.S_far (p := ⟨gb482, 1, none⟩) (Kd.S_far (p := ⟨gb482, 0, none⟩) (Kd.S_mono HO_9.out (fun k_ hk => (⟨hk, hk.2⟩ : _ ∧ k_ ≠ gb482))) (fun _ hk => hk.2) (.int .i64 ((rd_T49 l0 x22_1).f0))) (fun _ hk => hk.2) (.int .i64 ((rd_T49 l0 x22_1).f1))) (fun _ hk => hk.2) (.int .i64 ((rd_T49 l0 x22_1).f2))) (fun _ hk => hk.2) (.slice A481_3 ((rd_T49 l0 x22_1).f3).length c481_3)) (fun _ hk => hk.2) (.slice none 0 0)) (fun k_ hk => ⟨hk.1.2, fun e_ => e_⟩))); (case aS => exact (below_size (by repeat (first | (with_reducible first | exact HB.out | apply below_alloc | apply pw_below_drewN | apply below_drew1 | refine below_set ?_ GE482.out) | exact HB.out)))); (case aL => have := LMc8.out; omega); intro v484 w11 ho hb hg hat; rw [← Ny483.out] at ho; have n0_ := Aside0.mk (blk_grown (g := gb482) (o := .cells #[.int .i64 ((rd_T49 l0 x22_1).f0), .int .i64 ((rd_T49 l0 x22_1).f1), .int .i64 ((rd_T49 l0 x22_1).f2), .slice none 0 0] 49 (0, 0)) (by (with_reducible repeat (first | refine blk_drewN ?_ _ | refine blk_drew ?_ | refine blk_alloc ?_ _)); refine blk_put (cs := #[.int .i64 ((rd_T49 l0 x22_1).f0), .int .i64 ((rd_T49 l0 x22_1).f1), .int .i64 ((rd_T49 l0 x22_1).f2), .slice A481_3 ((rd_T49 l0 x22_1).f3).length c481_3]) ?_ 3 _ rfl; (with_reducible repeat (first | refine blk_drewN ?_ _ | refine blk_drew ?_ | refine blk_alloc ?_ _)); refine blk_put (cs := #[.int .i64 ((rd_T49 l0 x22_1).f0), .int .i64 ((rd_T49 l0 x22_1).f1), .int .i64 ((rd_T49 l0 x22_1).f2), .slice none 0 0]) ?_ 3 _ rfl; (with_reducible repeat (first | refine blk_drewN ?_ _ | refine blk_drew ?_ | refine blk_alloc ?_ _)); refine blk_put (cs := #[.int .i64 ((rd_T49 l0 x22_1).f0), .int .i64 ((rd_T49 l0 x22_1).f1), .int .i64 0, .slice none 0 0]) ?_ 2 _ rfl; (with_reducible repeat (first | refine blk_drewN ?_ _ | refine blk_drew ?_ | refine blk_alloc ?_ _)); refine blk_put (cs := #[.int .i64 ((rd_T49 l0 x22_1).f0), .int .i64 0, .int .i64 0, .slice none 0 0]) ?_ 1 _ rfl; (with_reducible repeat (first | refine blk_drewN ?_ _ | refine blk_drew ?_ | refine blk_alloc ?_ _)); refine blk_put (cs := #[.int .i64 0, .int .i64 0, .int .i64 0, .slice none 0 0]) ?_ 0 _ rfl; (with_reducible repeat (first | refine blk_drewN ?_ _ | refine blk_drew ?_ | refine blk_alloc ?_ _)); exact BK482.out) hg (Kd.S_away HO_9.out (fun _ hk => hk.2))); have n1_ := Aside0.mk (hb); have n2_ := Aside0.mk (ho); clear BK482; clear HB; clear HO_9; have BK482 := n0_; have HB := n1_; have HO485 := n2_; clear n0_ n1_ n2_; clear ho hb hg hat))
              go_roundg k1
              case measure => have := HK1.out; omega
              case rel => exact ⟨(y483), (wrap64 (x22_1 + 1)), (by first | rfl | (simp; done) | (simp [*]; done)), H', ⟨by have := HK1.out; omega⟩, ⟨by (with_reducible repeat (first | apply Kd.S_alloc | apply Kd.S_drewN | apply Kd.S_drew)); exact Kd.S_mono HO485.out (fun _ hk => trivial)⟩, ⟨by repeat (first | (with_reducible first | exact HB.out | apply below_alloc | apply pw_below_drewN | apply below_drew1 | refine below_set ?_ GE482.out) | exact HB.out)⟩⟩
            · rw [if_neg c8] at H
              exact absurd H (by simp)
          · rw [if_neg c7] at H
            exact absurd H (by simp)
        · rw [if_neg c6] at H
          exact absurd H (by simp)
      · rw [if_neg c5] at H
        have c5b0 : decide (x22_1 < (l0.length : Int)) = false := decide_eq_false c5
        clear c5
        have HC12 := Aside0.mk H
        clear H
        go_upto_region 8 with (fail)
        go_cut [40] (fun v40 wc => ∃ (kq : Nat) (x40_11 : Bool), v40 = .bool x40_11 ∧ Aside0 (ontimelaw43_CeilingPlain.j1 kq l1 a2 a3 x9_1 x40_11 = some r) ∧ Aside0 (kq ≤ k1) ∧ Aside0 (Kd.S k49 49 wc w.heap.size (fun _ => True) u9 x9_1) ∧ Aside0 (Below w.heap.size w wc))
        case first =>
          have H := HC12.out
          clear HC12
          replace H := Option.bind_eq_some_iff.mp H
          obtain ⟨t486, A130, H⟩ := H
          replace H : (if t486 = true then ((ontimelaw43_fits.f k1 x9_1 l1 a2).bind fun t487 => (ontimelaw43_CeilingPlain.j1 k1 l1 a2 a3 x9_1 (!t487))) else (ontimelaw43_CeilingPlain.j1 k1 l1 a2 a3 x9_1 true)) = some r := H
          have A13 := Aside0.mk A130
          clear A130
          by_cases c14 : t486 = true
          · subst c14
            have H1 : ((ontimelaw43_fits.f k1 x9_1 l1 a2).bind fun t487 => (ontimelaw43_CeilingPlain.j1 k1 l1 a2 a3 x9_1 (!t487))) = some r := by rw [if_pos rfl] at H; exact H
            clear H
            have H := H1
            clear H1
            replace H := Option.bind_eq_some_iff.mp H
            obtain ⟨t487, A150, H⟩ := H
            replace H : (ontimelaw43_CeilingPlain.j1 k1 l1 a2 a3 x9_1 (!t487)) = some r := H
            have A15 := Aside0.mk A150
            clear A150
            have H' := Aside0.mk H
            clear H
            go_wp2_with (first | ((with_reducible refine gate_callee (f := 32) rfl ?_); refine goesL_ (some 32) rfl rfl Try.func32 (by kernel_rfl) rfl #[] rfl (by (try simp only [List.map_toArray, List.map_cons, List.map_nil]); first | done | rfl | (simp only [List.length_drop, List.length_take]; rfl)) ?_; (with_reducible refine (ontimelaw43_awake.calls k1  true _ A13.out).mono ?_); rintro e w16 ⟨rfl, hb⟩; refine ⟨_, rfl, ?_⟩; have n0_ := Aside0.mk (Kd.S_below (by (with_reducible repeat (first | apply Kd.S_alloc | apply Kd.S_drewN | apply Kd.S_drew)); exact HO_9.out) hb); have n1_ := Aside0.mk (below_step (by repeat (first | (with_reducible first | exact HB.out | apply below_alloc | apply pw_below_drewN | apply below_drew1) | exact HB.out)) hb); clear HO_9; clear HB; have HO_9 := n0_; have HB := n1_; clear n0_ n1_; (try clear hb); (try clear hb2); (try clear hk); (try clear hi); obtain ⟨Ao17, co17, eo17⟩ := Kd.S_slice HO_9.out; subst eo17) | (go_at_call 33; (with_reducible refine (ontimelaw43_fits.calls k1 _ _ x9_1 _ _ l1 a2 t487 _ ?side1 ?side2 ?side3 ?side4 A15.out).mono ?_); (case side1 => repeat (first | exact (Kd.S_reads' HO_9.out).2.2 | (with_reducible refine Kd.C_alloc ?_ _) | (with_reducible refine Kd.C_drewN ?_ _) | (with_reducible refine Kd.C_drew ?_))); (case side2 => exact (Kd.S_reads' HO_9.out).2.1); (case side3 => repeat (first | exact (Kd.C_below HR1.out HB.out) | (with_reducible refine Kd.C_alloc ?_ _) | (with_reducible refine Kd.C_drewN ?_ _) | (with_reducible refine Kd.C_drew ?_))); (case side4 => exact HC1.out); rintro e w18 ⟨rfl, hb⟩; have n0_ := Aside0.mk (Kd.S_below (by (with_reducible repeat (first | apply Kd.S_alloc | apply Kd.S_drewN | apply Kd.S_drew)); exact HO_9.out) hb); have n1_ := Aside0.mk (below_step (by repeat (first | (with_reducible first | exact HB.out | apply below_alloc | apply pw_below_drewN | apply below_drew1) | exact HB.out)) hb); clear HO_9; clear HB; have HO_9 := n0_; have HB := n1_; clear n0_ n1_; (try clear hb); (try clear hb2); (try clear hk); (try clear hi)))
            go_meet
            case rel => exact ⟨_, (!t487), (by first | rfl | (simp; done) | (simp [*]; done)), H', ⟨by have := HK1.out; first | omega | exact Nat.le_refl _⟩, ⟨by (with_reducible repeat (first | apply Kd.S_alloc | apply Kd.S_drewN | apply Kd.S_drew)); exact HO_9.out⟩, ⟨by repeat (first | (with_reducible first | exact HB.out | apply below_alloc | apply pw_below_drewN | apply below_drew1) | exact HB.out)⟩⟩
          · replace c14 := Bool.eq_false_iff.mpr c14
            subst c14
            have H1 : (ontimelaw43_CeilingPlain.j1 k1 l1 a2 a3 x9_1 true) = some r := by rw [if_neg (show ¬ (false = true) by decide)] at H; exact H
            clear H
            have H := H1
            clear H1
            have H' := Aside0.mk H
            clear H
            go_wp2_with (first | ((with_reducible refine gate_callee (f := 32) rfl ?_); refine goesL_ (some 32) rfl rfl Try.func32 (by kernel_rfl) rfl #[] rfl (by (try simp only [List.map_toArray, List.map_cons, List.map_nil]); first | done | rfl | (simp only [List.length_drop, List.length_take]; rfl)) ?_; (with_reducible refine (ontimelaw43_awake.calls k1  false _ A13.out).mono ?_); rintro e w19 ⟨rfl, hb⟩; refine ⟨_, rfl, ?_⟩; have n0_ := Aside0.mk (Kd.S_below (by (with_reducible repeat (first | apply Kd.S_alloc | apply Kd.S_drewN | apply Kd.S_drew)); exact HO_9.out) hb); have n1_ := Aside0.mk (below_step (by repeat (first | (with_reducible first | exact HB.out | apply below_alloc | apply pw_below_drewN | apply below_drew1) | exact HB.out)) hb); clear HO_9; clear HB; have HO_9 := n0_; have HB := n1_; clear n0_ n1_; (try clear hb); (try clear hb2); (try clear hk); (try clear hi)))
            go_meet
            case rel => exact ⟨_, (true), (by first | rfl | (simp; done) | (simp [*]; done)), H', ⟨by have := HK1.out; first | omega | exact Nat.le_refl _⟩, ⟨by (with_reducible repeat (first | apply Kd.S_alloc | apply Kd.S_drewN | apply Kd.S_drew)); exact HO_9.out⟩, ⟨by repeat (first | (with_reducible first | exact HB.out | apply below_alloc | apply pw_below_drewN | apply below_drew1) | exact HB.out)⟩⟩
        case rest =>
          clear HC12
          try clear c1
          try clear p2
          try clear c3
          try clear c4
          try clear p4
          try clear q4
          try clear hx4
          try clear c5
          try clear c5b0
          try clear c6
          try clear c6b0
          try clear p6
          try clear c7
          try clear c7b0
          try clear c8
          try clear c14
          try clear c15
          try clear hcz10_0
          try clear hcz10_1
          try clear hcz10_2
          try clear hcz10_3
          try clear hfz10_0
          try clear hfz10_1
          try clear hfz10_2
          try clear hfz10_3
          try clear hx481_0
          try clear hx481_1
          try clear hx481_2
          try clear hx481_3
          try clear p2
          try clear p481
          try clear q481
          obtain ⟨kq, x40_11, rfl, HA, HJ11, HO_9, HB⟩ := hcut
          cases kq with
          | zero => exact absurd HA.out (by simp [ontimelaw43_CeilingPlain.j1])
          | succ kj11 =>
            have H := HA.out
            clear HA
            simp only [ontimelaw43_CeilingPlain.j1] at H
            by_cases c20 : x40_11 = true
            · subst c20
              have H1 : ((ontimelaw43_awake.f kj11).bind fun t488 => (some t488)) = some r := by rw [if_pos rfl] at H; exact H
              clear H
              have H := H1
              clear H1
              replace H := Option.bind_eq_some_iff.mp H
              obtain ⟨t488, A210, H⟩ := H
              replace H : (some t488) = some r := H
              have A21 := Aside0.mk A210
              clear A210
              obtain rfl := Option.some.inj H
              go_wp2_with (first | ((with_reducible refine gate_callee (f := 32) rfl ?_); refine goesL_ (some 41) rfl rfl Try.func32 (by kernel_rfl) rfl #[] rfl (by (try simp only [List.map_toArray, List.map_cons, List.map_nil]); first | done | rfl | (simp only [List.length_drop, List.length_take]; rfl)) ?_; (with_reducible refine (ontimelaw43_awake.calls kj11  t488 _ A21.out).mono ?_); rintro e w22 ⟨rfl, hb⟩; refine ⟨_, rfl, ?_⟩; have n0_ := Aside0.mk (Kd.S_below (by (with_reducible repeat (first | apply Kd.S_alloc | apply Kd.S_drewN | apply Kd.S_drew)); exact HO_9.out) hb); have n1_ := Aside0.mk (below_step (by repeat (first | (with_reducible first | exact HB.out | apply below_alloc | apply pw_below_drewN | apply below_drew1) | exact HB.out)) hb); clear HO_9; clear HB; have HO_9 := n0_; have HB := n1_; clear n0_ n1_; (try clear hb); (try clear hb2); (try clear hk); (try clear hi)))
              go_ret
              exact ⟨by first | rfl | (simp [errW_none, errW_some] <;> rfl) | (simp [*, errW_none, errW_some] <;> rfl), by repeat (first | (with_reducible first | exact HB.out | apply below_alloc | apply pw_below_drewN | apply below_drew1) | exact HB.out)⟩
            · replace c20 := Bool.eq_false_iff.mpr c20
              subst c20
              have H1 : ((ceiling_Simulate.f kj11 x9_1 l1 a2).bind fun bt489 => (if (wrap64 ((x9_1.length : Int) + 1)) = 0 then (none) else (if 0 ≤ (Int.tmod (wrap64 (a3)) (wrap64 ((x9_1.length : Int) + 1))) then (if (Int.tmod (wrap64 (a3)) (wrap64 ((x9_1.length : Int) + 1))) ≤ (x9_1.length : Int) then (if (Int.tmod (wrap64 (a3)) (wrap64 ((x9_1.length : Int) + 1))) ≤ (l1.length : Int) then ((ceiling_Simulate.f kj11 (x9_1.take ((Int.tmod (wrap64 (a3)) (wrap64 ((x9_1.length : Int) + 1))) : Int).toNat) (l1.take ((Int.tmod (wrap64 (a3)) (wrap64 ((x9_1.length : Int) + 1))) : Int).toNat) a2).bind fun bt501 => (ontimelaw43_CeilingPlain.l1 kj11 bt489.2 (Int.tmod (wrap64 (a3)) (wrap64 ((x9_1.length : Int) + 1))) bt501.1 bt501.2 ([] : List (S34)) bt489.1 (bt489.1.length : Int) 0)) else (none)) else (none)) else (none)))) = some r := by rw [if_neg (show ¬ (false = true) by decide)] at H; exact H
              clear H
              have H := H1
              clear H1
              replace H := Option.bind_eq_some_iff.mp H
              obtain ⟨⟨t489, t490⟩, A230, H⟩ := H
              replace H : (if (wrap64 ((x9_1.length : Int) + 1)) = 0 then (none) else (if 0 ≤ (Int.tmod (wrap64 (a3)) (wrap64 ((x9_1.length : Int) + 1))) then (if (Int.tmod (wrap64 (a3)) (wrap64 ((x9_1.length : Int) + 1))) ≤ (x9_1.length : Int) then (if (Int.tmod (wrap64 (a3)) (wrap64 ((x9_1.length : Int) + 1))) ≤ (l1.length : Int) then ((ceiling_Simulate.f kj11 (x9_1.take ((Int.tmod (wrap64 (a3)) (wrap64 ((x9_1.length : Int) + 1))) : Int).toNat) (l1.take ((Int.tmod (wrap64 (a3)) (wrap64 ((x9_1.length : Int) + 1))) : Int).toNat) a2).bind fun bt501 => (ontimelaw43_CeilingPlain.l1 kj11 t490 (Int.tmod (wrap64 (a3)) (wrap64 ((x9_1.length : Int) + 1))) bt501.1 bt501.2 ([] : List (S34)) t489 (t489.length : Int) 0)) else (none)) else (none)) else (none))) = some r := H
              have A23 := Aside0.mk A230
              clear A230
              by_cases c24 : (wrap64 ((x9_1.length : Int) + 1)) = 0
              · rw [if_pos c24] at H
                exact absurd H (by simp)
              · rw [if_neg c24] at H
                have c24b0 : ((wrap64 ((x9_1.length : Int) + 1)) == 0) = false := beq_eq_false_iff_ne.mpr c24
                have c24b1 : ((wrap64 ((x9_1.length : Int) + 1)) != 0) = true := bne_iff_ne.mpr c24
                obtain ⟨ji25, hji25⟩ : ∃ j_ : Int, (Int.tmod (wrap64 (a3)) (wrap64 ((x9_1.length : Int) + 1))) = j_ := ⟨_, rfl⟩
                replace H : (if 0 ≤ (ji25) then (if (ji25) ≤ (x9_1.length : Int) then (if (ji25) ≤ (l1.length : Int) then ((ceiling_Simulate.f kj11 (x9_1.take ((ji25) : Int).toNat) (l1.take ((ji25) : Int).toNat) a2).bind fun bt501 => (ontimelaw43_CeilingPlain.l1 kj11 t490 ji25 bt501.1 bt501.2 ([] : List (S34)) t489 (t489.length : Int) 0)) else (none)) else (none)) else (none)) = some r := by first | (rw [hji25] at H; exact H) | (simp only [hji25] at H ⊢; exact H)
                (try rw [hji25] at A23)
                by_cases c26 : 0 ≤ (ji25)
                · rw [if_pos c26] at H
                  have c26b0 := eq_true c26
                  have c26b1 : decide (0 ≤ (ji25)) = true := decide_eq_true c26
                  clear c26
                  by_cases c27 : (ji25) ≤ (x9_1.length : Int)
                  · rw [if_pos c27] at H
                    have c27b0 := eq_true c27
                    have c27b1 : decide ((ji25) ≤ (x9_1.length : Int)) = true := decide_eq_true c27
                    clear c27
                    obtain ⟨y493, hy493⟩ : ∃ y_ : List (S49), y_ = (x9_1.take ((ji25) : Int).toNat) := ⟨_, rfl⟩
                    replace H : (if (ji25) ≤ (l1.length : Int) then ((ceiling_Simulate.f kj11 y493 (l1.take ((ji25) : Int).toNat) a2).bind fun bt501 => (ontimelaw43_CeilingPlain.l1 kj11 t490 ji25 bt501.1 bt501.2 ([] : List (S34)) t489 (t489.length : Int) 0)) else (none)) = some r := by first | (rw [hy493]; with_reducible exact H) | (have H2_ := (Option.bind_some _ _).symm.trans H; rw [hy493]; with_reducible exact H2_) | (have H2_ := (Option.bind_some _ _).symm.trans H; with_reducible exact H2_) | with_reducible exact H | (rw [hy493]; exact H) | exact H
                    have Ny493 := Aside0.mk hy493
                    clear hy493
                    have c28b0 := eq_true (of_decide_eq_true (by first | (with_reducible assumption) | assumption) : 0 ≤ (ji25))
                    by_cases c29 : (ji25) ≤ (l1.length : Int)
                    · rw [if_pos c29] at H
                      have c29b0 := eq_true c29
                      have c29b1 : decide ((ji25) ≤ (l1.length : Int)) = true := decide_eq_true c29
                      clear c29
                      obtain ⟨y497, hy497⟩ : ∃ y_ : List (List Int), y_ = (l1.take ((ji25) : Int).toNat) := ⟨_, rfl⟩
                      replace H : ((ceiling_Simulate.f kj11 y493 y497 a2).bind fun bt501 => (ontimelaw43_CeilingPlain.l1 kj11 t490 ji25 bt501.1 bt501.2 ([] : List (S34)) t489 (t489.length : Int) 0)) = some r := by first | (rw [hy497]; with_reducible exact H) | (have H2_ := (Option.bind_some _ _).symm.trans H; rw [hy497]; with_reducible exact H2_) | (have H2_ := (Option.bind_some _ _).symm.trans H; with_reducible exact H2_) | with_reducible exact H | (rw [hy497]; exact H) | exact H
                      have Ny497 := Aside0.mk hy497
                      clear hy497
                      replace H := Option.bind_eq_some_iff.mp H
                      obtain ⟨⟨t501, t502⟩, A300, H⟩ := H
                      replace H : (ontimelaw43_CeilingPlain.l1 kj11 t490 ji25 t501 t502 ([] : List (S34)) t489 (t489.length : Int) 0) = some r := H
                      have A30 := Aside0.mk A300
                      clear A300
                      have H' := Aside0.mk H
                      clear H
                      obtain ⟨Ao31, co31, eo31⟩ := Kd.S_slice HO_9.out
                      subst eo31
                      try go_wp2_with (first | ((with_reducible refine gate_callee (f := 21) rfl ?_); refine goesL_ (some 46) rfl rfl Try.func21 (by kernel_rfl) rfl #[.slice Ao31 x9_1.length co31, .slice A1 l1.length c1, .int .i64 a2] rfl (by (try simp only [List.map_toArray, List.map_cons, List.map_nil]); first | done | rfl | (simp only [List.length_drop, List.length_take]; rfl)) ?_; (with_reducible refine (ceiling_Simulate.calls kj11 _ _ x9_1 _ _ l1 a2 t489 t490 _ ?side1 ?side2 ?side3 ?side4 A23.out).mono ?_); (case side1 => repeat (first | exact (Kd.S_reads' HO_9.out).2.2 | (with_reducible refine Kd.C_alloc ?_ _) | (with_reducible refine Kd.C_drewN ?_ _) | (with_reducible refine Kd.C_drew ?_))); (case side2 => exact (Kd.S_reads' HO_9.out).2.1); (case side3 => repeat (first | exact (Kd.C_below HR1.out HB.out) | (with_reducible refine Kd.C_alloc ?_ _) | (with_reducible refine Kd.C_drewN ?_ _) | (with_reducible refine Kd.C_drew ?_))); (case side4 => exact HC1.out); rintro e w32 ⟨v491, rfl, ho0, hb⟩; refine ⟨_, rfl, ?_⟩; have n0_ := Aside0.mk (Kd.S_below (by (with_reducible repeat (first | apply Kd.S_alloc | apply Kd.S_drewN | apply Kd.S_drew)); exact HO_9.out) hb); have n1_ := Aside0.mk (Kd.R_lower ho0 (below_size (by repeat (first | (with_reducible first | exact HB.out | apply below_alloc | apply pw_below_drewN | apply below_drew1) | exact HB.out)))); have n2_ := Aside0.mk (below_step (by repeat (first | (with_reducible first | exact HB.out | apply below_alloc | apply pw_below_drewN | apply below_drew1) | exact HB.out)) hb); clear HO_9; clear HB; have HO_9 := n0_; have HO492 := n1_; have HB := n2_; clear n0_ n1_ n2_; (try clear hb); (try clear hb2); (try clear hk); (try clear hi); (try clear ho0)))
                      have n0_ := Aside0.mk (Kd.S_drew HO_9.out)
                      have n1_ := Aside0.mk (Kd.R_drew HO492.out)
                      have n2_ := Aside0.mk (below_drew1 HB.out)
                      clear HO_9
                      clear HO492
                      clear HB
                      have HO_9 := n0_
                      have HO492 := n1_
                      have HB := n2_
                      clear n0_ n1_ n2_
                      have q34 : ((ji25) : Int) ≤ ((x9_1.length : Int) : Int) := of_decide_eq_true (by first | (with_reducible assumption) | assumption)
                      obtain ⟨i034, hi034, _, hsz34, _⟩ := info_parts info49
                      have hroom34 : x9_1.length ≤ co31 := (Kd.S_reads' HO_9.out).2.1
                      have hC34 : Kd.C k49 _ Ao31 x9_1.length x9_1 := (Kd.S_reads' HO_9.out).2.2
                      have hcut34 := cut_to (P := Try.prog) 22 49 .i64 Try.underlying22 hi034 Ao31 x9_1.length co31 (ji25) (of_decide_eq_true (by first | (with_reducible assumption) | assumption)) q34 hroom34
                      have hr34 := Kd.C_take (m := ((ji25) : Int).toNat) hC34 (by omega)
                      have hy34 : y493.length = ((ji25) : Int).toNat := (by rw [Ny493.out, List.length_take]; omega)
                      rw [← Ny493.out] at hr34
                      rw [← hy34] at hcut34
                      have HR496 := Aside0.mk hr34
                      have HC496 := Aside0.mk (show y493.length ≤ co31 from by omega)
                      clear hr34 hC34 hroom34 hi034 hsz34
                      have KY34 := Aside0.mk hy34
                      clear hy34
                      have KL34 := Aside0.mk (show ((ji25) : Int).toNat ≤ x9_1.length from by omega)
                      replace q34 := eq_true q34
                      have q35 : ((ji25) : Int) ≤ ((l1.length : Int) : Int) := of_decide_eq_true (by first | (with_reducible assumption) | assumption)
                      obtain ⟨i035, hi035, _, hsz35, _⟩ := info_parts info38
                      have hroom35 : l1.length ≤ c1 := HC1.out
                      have hC35 : Kd.C (Kd.slice 3 (Kd.int .i64)) _ A1 l1.length l1 := HR1.out
                      have hcut35 := cut_to (P := Try.prog) 30 38 .i64 Try.underlying30 hi035 A1 l1.length c1 (ji25) (of_decide_eq_true (by first | (with_reducible assumption) | assumption)) q35 hroom35
                      have hr35 := Kd.C_take (m := ((ji25) : Int).toNat) hC35 (by omega)
                      have hy35 : y497.length = ((ji25) : Int).toNat := (by rw [Ny497.out, List.length_take]; omega)
                      rw [← Ny497.out] at hr35
                      rw [← hy35] at hcut35
                      have HR500 := Aside0.mk hr35
                      have HC500 := Aside0.mk (show y497.length ≤ c1 from by omega)
                      clear hr35 hC35 hroom35 hi035 hsz35
                      have KY35 := Aside0.mk hy35
                      clear hy35
                      replace q35 := eq_true q35
                      refine start_ (n := 13) (S := fun w' => True) (ds := []) #[false, false, false, false, false, false, false, false, false, false, false, false, false] (by kernel_rfl) rfl rfl trivial (fun hHeld => ?_); refine with_tabW ontimelaw43_CeilingPlain.tab12 ontimelaw43_CeilingPlain.bits12 (fun HT_ HW_ => ?_)
                      generalize w32.drew = w33 at HO_9 HO492 HB HR496 HR500 hHeld ⊢
                      refine pure_ (i := 0) (N := some 56) (v := ?_) (a' := ?_) #[true, false, false, false, false, false, false, false, false, false, false, false, false] rfl rfl (any_of HT_.out (by kernel_rfl)) (fun _ _ _ h => h) (Or.inl ⟨by rfl, ?_⟩) ?_ ?_
                      rotate_left
                      · intro w'
                        go_simp
                        with_reducible rfl
                      rotate_left
                      · simp only [Act.put, List.setIfInBounds_toArray, List.set_cons_zero, List.set_cons_succ, i64_w, i32_w]
                        rfl
                      refine pure_ (i := 1) (N := some 57) (v := ?_) (a' := ?_) #[true, true, false, false, false, false, false, false, false, false, false, false, false] rfl rfl (any_of HT_.out (by kernel_rfl)) (fun _ _ _ h => h) (Or.inl ⟨by rfl, ?_⟩) ?_ ?_
                      rotate_left
                      · intro w'
                        go_simp
                        with_reducible rfl
                      rotate_left
                      · simp only [Act.put, List.setIfInBounds_toArray, List.set_cons_zero, List.set_cons_succ, i64_w, i32_w]
                        rfl
                      refine pure_ (i := 2) (N := some 58) (v := ?_) (a' := ?_) #[true, true, true, false, false, false, false, false, false, false, false, false, false] rfl rfl (any_of HT_.out (by kernel_rfl)) (fun _ _ _ h => h) (Or.inl ⟨by rfl, ?_⟩) ?_ ?_
                      rotate_left
                      · intro w'
                        go_simp
                        with_reducible rfl
                      rotate_left
                      · simp only [Act.put, List.setIfInBounds_toArray, List.set_cons_zero, List.set_cons_succ, i64_w, i32_w]
                        rfl
                      refine pure_ (i := 3) (N := some 59) (v := ?_) (a' := ?_) #[true, true, true, true, false, false, false, false, false, false, false, false, false] rfl rfl (any_of HT_.out (by kernel_rfl)) (fun _ _ _ h => h) (Or.inl ⟨by rfl, ?_⟩) ?_ ?_
                      rotate_left
                      · intro w'
                        go_simp
                        with_reducible rfl
                      rotate_left
                      · simp only [Act.put, List.setIfInBounds_toArray, List.set_cons_zero, List.set_cons_succ, i64_w, i32_w]
                        rfl
                      refine pure_ (i := 4) (N := some 60) (v := ?_) (a' := ?_) #[true, true, true, true, true, false, false, false, false, false, false, false, false] rfl rfl (any_of HT_.out (by kernel_rfl)) (fun _ _ _ h => h) (Or.inl ⟨by rfl, ?_⟩) ?_ ?_
                      rotate_left
                      · intro w'
                        go_simp
                        with_reducible rfl
                      rotate_left
                      · simp only [Act.put, List.setIfInBounds_toArray, List.set_cons_zero, List.set_cons_succ, i64_w, i32_w]
                        rfl
                      refine pure_ (i := 5) (N := some 61) (v := ?_) (a' := ?_) #[true, true, true, true, true, true, false, false, false, false, false, false, false] rfl rfl (any_of HT_.out (by kernel_rfl)) (fun _ _ _ h => h) (Or.inl ⟨by rfl, ?_⟩) ?_ ?_
                      rotate_left
                      · intro w'
                        go_simp
                        with_reducible rfl
                      rotate_left
                      · simp only [Act.put, List.setIfInBounds_toArray, List.set_cons_zero, List.set_cons_succ, i64_w, i32_w]
                        rfl
                      refine pure_ (i := 6) (N := some 62) (v := ?_) (a' := ?_) #[true, true, true, true, true, true, true, false, false, false, false, false, false] rfl rfl (any_of HT_.out (by kernel_rfl)) (fun _ _ _ h => h) (Or.inl ⟨by rfl, ?_⟩) ?_ ?_
                      rotate_left
                      · intro w'
                        go_simp
                        with_reducible rfl
                      rotate_left
                      · simp only [Act.put, List.setIfInBounds_toArray, List.set_cons_zero, List.set_cons_succ, i64_w, i32_w]
                        rfl
                      refine one_ (i := 7) (N := some 63) #[true, true, true, true, true, true, true, true, false, false, false, false, false] rfl rfl (one_of HT_.out (by kernel_rfl)) (by decide) (fun K hK => ?_)
                      refine goes_ Try.func21 (by kernel_rfl) rfl #[.slice Ao31 y493.length co31, .slice A1 y497.length c1, .int .i64 a2] (by rfl) rfl rfl (by (try simp only [List.map_toArray, List.map_cons, List.map_nil]); first | done | rfl | (simp only [List.length_drop, List.length_take]; rfl)) ?_
                      with_reducible refine (ceiling_Simulate.calls kj11 _ _ y493 _ _ y497 a2 t501 t502 _ ?side1 ?side2 ?side3 ?side4 A30.out).mono ?_
                      (case side1 => repeat (first | exact (by repeat (first | (with_reducible exact HR496.out) | (with_reducible refine Kd.C_alloc ?_ _) | (with_reducible refine Kd.C_drewN ?_ _) | (with_reducible refine Kd.C_drew ?_) | exact HR496.out)) | (with_reducible refine Kd.C_alloc ?_ _) | (with_reducible refine Kd.C_drewN ?_ _) | (with_reducible refine Kd.C_drew ?_)))
                      (case side2 => exact HC496.out)
                      (case side3 => repeat (first | exact (Kd.C_below HR500.out HB.out) | (with_reducible refine Kd.C_alloc ?_ _) | (with_reducible refine Kd.C_drewN ?_ _) | (with_reducible refine Kd.C_drew ?_)))
                      (case side4 => exact HC500.out)
                      rintro e w36 ⟨v503, rfl, ho0, hb⟩
                      refine ⟨_, rfl, ?_⟩
                      have n0_ := Aside0.mk (Kd.S_below (by (with_reducible repeat (first | apply Kd.S_alloc | apply Kd.S_drewN | apply Kd.S_drew)); exact HO_9.out) hb)
                      have n1_ := Aside0.mk (Kd.R_elder' (by (with_reducible repeat (first | apply Kd.R_alloc | apply Kd.R_drewN | apply Kd.R_drew)); exact HO492.out) (Kd.R_base ho0) hb)
                      have n2_ := Aside0.mk (Kd.R_lower (Kd.R_new' ho0 (Kd.R_lt (by (with_reducible repeat (first | apply Kd.R_alloc | apply Kd.R_drewN | apply Kd.R_drew)); exact HO492.out))) (below_size (by repeat (first | (with_reducible first | exact HB.out | apply below_alloc | apply pw_below_drewN | apply below_drew1) | exact HB.out))))
                      have n3_ := Aside0.mk (Kd.C_below (by repeat (first | (with_reducible exact HR496.out) | (with_reducible refine Kd.C_alloc ?_ _) | (with_reducible refine Kd.C_drewN ?_ _) | (with_reducible refine Kd.C_drew ?_) | exact HR496.out)) hb)
                      have n4_ := Aside0.mk (below_step (by repeat (first | (with_reducible first | exact HB.out | apply below_alloc | apply pw_below_drewN | apply below_drew1) | exact HB.out)) hb)
                      clear HO_9
                      clear HO492
                      clear HR496
                      clear HB
                      have HO_9 := n0_
                      have HO492 := n1_
                      have HO504 := n2_
                      have HR496 := n3_
                      have HB := n4_
                      clear n0_ n1_ n2_ n3_ n4_
                      (try clear hb)
                      (try clear hb2)
                      (try clear hk)
                      (try clear hi)
                      (try clear ho0)
                      refine hK.out _ _ trivial (fun hHeld => ?_)
                      clear hK K
                      refine norm_ (a' := ?_) ?_ ?_
                      rotate_left
                      · show Act.put _ (some 63) _ = _
                        simp only [Act.put, List.setIfInBounds_toArray, List.set_cons_zero, List.set_cons_succ, i64_w, i32_w]
                        rfl
                      refine pure_ (i := 8) (N := some 55) (v := ?_) (a' := ?_) #[true, true, true, true, true, true, true, true, true, false, false, false, false] rfl rfl (any_of HT_.out (by kernel_rfl)) (fun _ _ _ h => h) (Or.inl ⟨by rfl, ?_⟩) ?_ ?_
                      rotate_left
                      · intro w'
                        go_simp
                        with_reducible rfl
                      rotate_left
                      · simp only [Act.put, List.setIfInBounds_toArray, List.set_cons_zero, List.set_cons_succ, i64_w, i32_w]
                        rfl
                      refine pure_ (i := 9) (N := some 64) (v := ?_) (a' := ?_) #[true, true, true, true, true, true, true, true, true, true, false, false, false] rfl rfl (any_of HT_.out (by kernel_rfl)) (fun _ _ _ h => h) (Or.inl ⟨by rfl, ?_⟩) ?_ ?_
                      rotate_left
                      · intro w'
                        go_simp
                        with_reducible rfl
                      rotate_left
                      · simp only [Act.put, List.setIfInBounds_toArray, List.set_cons_zero, List.set_cons_succ, i64_w, i32_w]
                        rfl
                      refine pure_ (i := 10) (N := some 65) (v := ?_) (a' := ?_) #[true, true, true, true, true, true, true, true, true, true, true, false, false] rfl rfl (any_of HT_.out (by kernel_rfl)) (fun _ _ _ h => h) (Or.inl ⟨by rfl, ?_⟩) ?_ ?_
                      rotate_left
                      · intro w'
                        go_simp
                        with_reducible rfl
                      rotate_left
                      · simp only [Act.put, List.setIfInBounds_toArray, List.set_cons_zero, List.set_cons_succ, i64_w, i32_w]
                        rfl
                      refine pure_ (i := 11) (N := some 15) (v := ?_) (a' := ?_) #[true, true, true, true, true, true, true, true, true, true, true, true, false] rfl rfl (any_of HT_.out (by kernel_rfl)) (fun _ _ _ h => h) (Or.inl ⟨by rfl, ?_⟩) ?_ ?_
                      rotate_left
                      · intro w'
                        go_simp
                        with_reducible rfl
                      rotate_left
                      · simp only [Act.put, List.setIfInBounds_toArray, List.set_cons_zero, List.set_cons_succ, i64_w, i32_w]
                        rfl
                      refine pure_ (i := 12) (N := some 16) (v := ?_) (a' := ?_) #[true, true, true, true, true, true, true, true, true, true, true, true, true] rfl rfl (any_of HT_.out (by kernel_rfl)) (fun _ _ _ h => h) (Or.inl ⟨by rfl, ?_⟩) ?_ ?_
                      rotate_left
                      · intro w'
                        go_simp
                        with_reducible rfl
                      rotate_left
                      · simp only [Act.put, List.setIfInBounds_toArray, List.set_cons_zero, List.set_cons_succ, i64_w, i32_w]
                        rfl
                      refine done_ (done_of HT_.out (by kernel_rfl)) ?_
                      obtain ⟨Ao37, co37, eo37⟩ := Kd.R_slice HO492.out
                      subst eo37
                      try go_wp2
                      go_loopg [17, 68] kj11 (fun kq v17 v68 w' => ∃ (x17_3 : List (S34)) (x68_3 : Int), v68 = .int .i64 x68_3 ∧ Aside0 (ontimelaw43_CeilingPlain.l1 kq t490 ji25 t501 t502 x17_3 t489 (t489.length : Int) x68_3 = some r) ∧ Aside0 (kq ≤ kj11) ∧ Aside0 (Kd.R k34 34 w' w.heap.size (fun k_ => some k_ ≠ (v17 : Value).ownBlock ∧ some k_ ≠ ((.slice Ao37 t489.length co37) : Value).ownBlock) v503 t501) ∧ Aside0 (Kd.R k34 34 w' w.heap.size (fun k_ => some k_ ≠ (v503 : Value).ownBlock ∧ some k_ ≠ ((.slice Ao37 t489.length co37) : Value).ownBlock) v17 x17_3) ∧ Aside0 (Kd.R k34 34 w' w.heap.size (fun k_ => some k_ ≠ (v503 : Value).ownBlock ∧ some k_ ≠ (v17 : Value).ownBlock) (.slice Ao37 t489.length co37) t489) ∧ Aside0 (Below w.heap.size w w'))
                      case atStart => exact ⟨(([] : List (S34))), (0), (by first | rfl | (simp; done) | (simp [*]; done)), H', ⟨Nat.le_refl _⟩, ⟨by (with_reducible repeat (first | apply Kd.R_alloc | apply Kd.R_drewN | apply Kd.R_drew)); exact Kd.R_mono HO504.out (fun _ hk => ⟨(by simp [Value.ownBlock]), hk.2⟩)⟩, ⟨by first | exact Kd.R_nil _ _ _ _ _ | exact Kd.N_nil _ _ _ _ _ | exact Kd.V_nil _ _ _ _ _ | exact Kd.Q_nil _ _ _ _ _ | exact Kd.S_nil _ _ _ _ _⟩, ⟨by (with_reducible repeat (first | apply Kd.R_alloc | apply Kd.R_drewN | apply Kd.R_drew)); exact Kd.R_mono HO492.out (fun _ hk => ⟨hk.2, (by simp [Value.ownBlock])⟩)⟩, ⟨by repeat (first | (with_reducible first | exact HB.out | apply below_alloc | apply pw_below_drewN | apply below_drew1) | exact HB.out)⟩⟩
                      case round =>
                        clear H'
                        try clear c1
                        try clear c2
                        try clear p2
                        try clear c3
                        try clear q3
                        try clear c4
                        try clear p4
                        try clear q4
                        try clear hx4
                        try clear c5
                        try clear c5b0
                        try clear c6
                        try clear c6b0
                        try clear p6
                        try clear c7
                        try clear c7b0
                        try clear c8
                        try clear c14
                        try clear c15
                        try clear c20
                        try clear c21
                        try clear c24
                        try clear c24b0
                        try clear c24b1
                        try clear c26
                        try clear c26b0
                        try clear c26b1
                        try clear c27
                        try clear c27b0
                        try clear c27b1
                        try clear c28
                        try clear c28b0
                        try clear c29
                        try clear c29b0
                        try clear c29b1
                        try clear c32
                        try clear q34
                        try clear q35
                        try clear hcz10_0
                        try clear hcz10_1
                        try clear hcz10_2
                        try clear hcz10_3
                        try clear hfz10_0
                        try clear hfz10_1
                        try clear hfz10_2
                        try clear hfz10_3
                        try clear hx481_0
                        try clear hx481_1
                        try clear hx481_2
                        try clear hx481_3
                        try clear p2
                        try clear p4
                        try clear p481
                        try clear p6
                        try clear q34
                        try clear q35
                        try clear q4
                        try clear q481
                        obtain ⟨x17_3, x68_3, rfl, HA, HK3, HO_15, HO_17, HO_66, HB⟩ := hrel
                        cases gk with
                        | zero => exact absurd HA.out (by simp [ontimelaw43_CeilingPlain.l1])
                        | succ k3 =>
                          have H := HA.out
                          clear HA
                          simp only [ontimelaw43_CeilingPlain.l1] at H
                          by_cases c38 : x68_3 < (t489.length : Int)
                          · rw [if_pos c38] at H
                            have c38b0 : decide (x68_3 < (t489.length : Int)) = true := decide_eq_true c38
                            clear c38
                            by_cases c39 : 0 ≤ x68_3
                            · rw [if_pos c39] at H
                              have c39b0 : decide (0 ≤ x68_3) = true := decide_eq_true c39
                              clear c39
                              by_cases c40 : x68_3 < (t489.length : Int)
                              · rw [if_pos c40] at H
                                have c40b0 : decide (x68_3 < (t489.length : Int)) = true := decide_eq_true c40
                                clear c40
                                by_cases c41 : ((rd_T34 t489 x68_3).f4) = 0
                                · rw [if_pos c41] at H
                                  have c41b0 : (((rd_T34 t489 x68_3).f4) == 0) = true := beq_iff_eq.mpr c41
                                  have c41b1 : (((rd_T34 t489 x68_3).f4) != 0) = false := bne_eq_false_iff_eq.mpr c41
                                  clear c41
                                  by_cases c42 : ((rd_T34 t489 x68_3).f0) < ji25
                                  · rw [if_pos c42] at H
                                    have c42b0 : decide (((rd_T34 t489 x68_3).f0) < ji25) = true := decide_eq_true c42
                                    clear c42
                                    by_cases c43 : x17_3.length < 3518437208883
                                    · rw [if_pos c43] at H
                                      have LMc43 := Aside0.mk c43
                                      clear c43
                                      obtain ⟨y508, hy508⟩ : ∃ y_ : List (S34), y_ = (x17_3 ++ [(⟨(rd_T34 t489 x68_3).f0, (rd_T34 t489 x68_3).f1, (rd_T34 t489 x68_3).f2, (rd_T34 t489 x68_3).f3, (rd_T34 t489 x68_3).f4⟩ : S34)]) := ⟨_, rfl⟩
                                      replace H : (ontimelaw43_CeilingPlain.l1 k3 t490 ji25 t501 t502 y508 t489 (t489.length : Int) (wrap64 (x68_3 + 1))) = some r := by first | (rw [hy508]; with_reducible exact H) | (have H2_ := (Option.bind_some _ _).symm.trans H; rw [hy508]; with_reducible exact H2_) | (have H2_ := (Option.bind_some _ _).symm.trans H; with_reducible exact H2_) | with_reducible exact H | (rw [hy508]; exact H) | exact H
                                      have Ny508 := Aside0.mk hy508
                                      clear hy508
                                      have H' := Aside0.mk H
                                      clear H
                                      have p506 : 0 ≤ (x68_3 : Int) := of_decide_eq_true (by first | (with_reducible assumption) | assumption)
                                      have q506 : x68_3 < (t489.length : Int) := of_decide_eq_true (by first | (with_reducible assumption) | assumption)
                                      obtain ⟨ad506, e506, hx506_0, hx506_1, hx506_2, hx506_3, hx506_4⟩ := at_T34 (Kd.R_reads' HO_66.out).2.2 x68_3 p506 q506
                                      cases e506
                                      replace p506 := eq_true p506
                                      replace q506 := eq_true q506
                                      go_wp2_with (first | ((with_reducible refine gate_dst (N := 19) rfl ?_); refine box_event ?hg (N := 19) ?hd (cs := #[.int .i64 0, .int .i64 0, .int .i64 0, .int .i64 0, .int .i64 0]) (t := 34) ?hr ?_; (case hd => rfl); (case hg => rfl); (case hr => first | (go_simp; done) | (go_simp; rfl)); intro gb507 hg w44 hbox hb; have n0_ := Aside0.mk (Kd.R_below (Kd.R_elderB (by (with_reducible repeat (first | apply Kd.R_alloc | apply Kd.R_drewN | apply Kd.R_drew)); exact HO_15.out) gb507 (Nat.le_of_eq hg.symm)) hb); have n1_ := Aside0.mk (Kd.R_below (Kd.R_elderB (by (with_reducible repeat (first | apply Kd.R_alloc | apply Kd.R_drewN | apply Kd.R_drew)); exact HO_17.out) gb507 (Nat.le_of_eq hg.symm)) hb); have n2_ := Aside0.mk (Kd.R_below (Kd.R_elderB (by (with_reducible repeat (first | apply Kd.R_alloc | apply Kd.R_drewN | apply Kd.R_drew)); exact HO_66.out) gb507 (Nat.le_of_eq hg.symm)) hb); have n3_ := Aside0.mk (below_step (by repeat (first | (with_reducible first | exact HB.out | apply below_alloc | apply pw_below_drewN | apply below_drew1) | exact HB.out)) hb); have n4_ := Aside0.mk (hbox); have n5_ := Aside0.mk ((by rw [hg]; exact (below_size (by repeat (first | (with_reducible first | exact HB.out | apply below_alloc | apply pw_below_drewN | apply below_drew1) | exact HB.out))) : w.heap.size ≤ gb507)); have n6_ := Aside0.mk ((by rw [hg]; exact (below_size (by repeat (first | (with_reducible first | exact HB.out | apply below_alloc | apply pw_below_drewN | apply below_drew1) | exact HB.out))) : w.heap.size ≤ gb507)); clear HO_15; clear HO_17; clear HO_66; clear HB; have HO_15 := n0_; have HO_17 := n1_; have HO_66 := n2_; have HB := n3_; have BK507 := n4_; have GW507 := n5_; have GE507 := n6_; clear n0_ n1_ n2_ n3_ n4_ n5_ n6_; clear hb hbox hg; have hcz45_0 : w44.cell? ⟨gb507, 0, none⟩ = some (.int .i64 0) := (blk_cell BK507.out 0).trans rfl; have hcz45_1 : w44.cell? ⟨gb507, 1, none⟩ = some (.int .i64 0) := (blk_cell BK507.out 1).trans rfl; have hcz45_2 : w44.cell? ⟨gb507, 2, none⟩ = some (.int .i64 0) := (blk_cell BK507.out 2).trans rfl; have hcz45_3 : w44.cell? ⟨gb507, 3, none⟩ = some (.int .i64 0) := (blk_cell BK507.out 3).trans rfl; have hcz45_4 : w44.cell? ⟨gb507, 4, none⟩ = some (.int .i64 0) := (blk_cell BK507.out 4).trans rfl; have hfz45_0 := blk_frozen BK507.out 0; have hfz45_1 := blk_frozen BK507.out 1; have hfz45_2 := blk_frozen BK507.out 2; have hfz45_3 := blk_frozen BK507.out 3; have hfz45_4 := blk_frozen BK507.out 4) | ((with_reducible refine gate_builtin (b := .append) (xs := #[.tmp 79, .tmp 81]) rfl ?_); at_builtin; refine Kd.R_append k34 (w0 := w) w.heap.size rfl (.tmp 79) (.tmp 81) 26 34 (.agg #[(.int .i64 0), (.int .i64 0), (.int .i64 0), (.int .i64 0), (.int .i64 0)]) 40 rfl Try.underlying26 info34 rfl (by decide) (by omega) u17 x17_3 (⟨(rd_T34 t489 x68_3).f0, (rd_T34 t489 x68_3).f1, (rd_T34 t489 x68_3).f2, (rd_T34 t489 x68_3).f3, (rd_T34 t489 x68_3).f4⟩ : S34) [.int .i64 ((rd_T34 t489 x68_3).f0), .int .i64 ((rd_T34 t489 x68_3).f1), .int .i64 ((rd_T34 t489 x68_3).f2), .int .i64 ((rd_T34 t489 x68_3).f3), .int .i64 ((rd_T34 t489 x68_3).f4)] (fun k_ => some k_ ≠ (v503 : Value).ownBlock ∧ some k_ ≠ (.slice (some ad506) t489.length co37 : Value).ownBlock ∧ k_ ≠ gb507) (fun _ => False) rfl (by first | (go_simp; done) | (go_simp; rfl)) ?aP (fun _ hk => hk.elim) ?aF ?aO ?aB ?aS ?aL ?_; (case aP => exact k34_mkM _ _ _ (⟨(rd_T34 t489 x68_3).f0, (rd_T34 t489 x68_3).f1, (rd_T34 t489 x68_3).f2, (rd_T34 t489 x68_3).f3, (rd_T34 t489 x68_3).f4⟩ : S34)); (case aB => exact (by repeat (first | (with_reducible first | exact HB.out | apply below_alloc | apply pw_below_drewN | apply below_drew1 | refine below_set ?_ GE507.out) | exact HB.out))); (case aF => exact (fun k_ hk => ⟨Kd.fresh' (Kd.R_lt (by (with_reducible repeat (first | apply Kd.R_alloc | apply Kd.R_drewN | apply Kd.R_drew)); exact (Kd.R_mono (Kd.R_far (p := ⟨gb507, 4, none⟩) (Kd.R_far (p := ⟨gb507, 3, none⟩) (Kd.R_far (p := ⟨gb507, 2, none⟩) (Kd.R_far (p := ⟨gb507, 1, none⟩) (Kd.R_far (p := ⟨gb507, 0, none⟩) (Kd.R_mono HO_15.out (fun k_ hk => (⟨hk, hk.2⟩ : _ ∧ k_ ≠ gb507))) (fun _ hk => hk.2) (.int .i64 ((rd_T34 t489 x68_3).f0))) (fun _ hk => hk.2) (.int .i64 ((rd_T34 t489 x68_3).f1))) (fun _ hk => hk.2) (.int .i64 ((rd_T34 t489 x68_3).f2))) (fun _ hk => hk.2) (.int .i64 ((rd_T34 t489 x68_3).f3))) (fun _ hk => hk.2) (.int .i64 ((rd_T34 t489 x68_3).f4))) (fun _ h_ => h_.1)))) k_ hk, Kd.fresh' (Kd.R_lt (by (with_reducible repeat (first | apply Kd.R_alloc | apply Kd.R_drewN | apply Kd.R_drew)); exact (Kd.R_mono (Kd.R_far (p := ⟨gb507, 4, none⟩) (Kd.R_far (p := ⟨gb507, 3, none⟩) (Kd.R_far (p := ⟨gb507, 2, none⟩) (Kd.R_far (p := ⟨gb507, 1, none⟩) (Kd.R_far (p := ⟨gb507, 0, none⟩) (Kd.R_mono HO_66.out (fun k_ hk => (⟨hk, hk.2⟩ : _ ∧ k_ ≠ gb507))) (fun _ hk => hk.2) (.int .i64 ((rd_T34 t489 x68_3).f0))) (fun _ hk => hk.2) (.int .i64 ((rd_T34 t489 x68_3).f1))) (fun _ hk => hk.2) (.int .i64 ((rd_T34 t489 x68_3).f2))) (fun _ hk => hk.2) (.int .i64 ((rd_T34 t489 x68_3).f3))) (fun _ hk => hk.2) (.int .i64 ((rd_T34 t489 x68_3).f4))) (fun _ h_ => h_.1)))) k_ hk, Kd.freshB (g := gb507) (o := .cells #[.int .i64 ((rd_T34 t489 x68_3).f0), .int .i64 ((rd_T34 t489 x68_3).f1), .int .i64 ((rd_T34 t489 x68_3).f2), .int .i64 ((rd_T34 t489 x68_3).f3), .int .i64 ((rd_T34 t489 x68_3).f4)] 34 (0, 0)) (by (with_reducible repeat (first | refine blk_drewN ?_ _ | refine blk_drew ?_ | refine blk_alloc ?_ _)); refine blk_put (cs := #[.int .i64 ((rd_T34 t489 x68_3).f0), .int .i64 ((rd_T34 t489 x68_3).f1), .int .i64 ((rd_T34 t489 x68_3).f2), .int .i64 ((rd_T34 t489 x68_3).f3), .int .i64 0]) ?_ 4 _ rfl; (with_reducible repeat (first | refine blk_drewN ?_ _ | refine blk_drew ?_ | refine blk_alloc ?_ _)); refine blk_put (cs := #[.int .i64 ((rd_T34 t489 x68_3).f0), .int .i64 ((rd_T34 t489 x68_3).f1), .int .i64 ((rd_T34 t489 x68_3).f2), .int .i64 0, .int .i64 0]) ?_ 3 _ rfl; (with_reducible repeat (first | refine blk_drewN ?_ _ | refine blk_drew ?_ | refine blk_alloc ?_ _)); refine blk_put (cs := #[.int .i64 ((rd_T34 t489 x68_3).f0), .int .i64 ((rd_T34 t489 x68_3).f1), .int .i64 0, .int .i64 0, .int .i64 0]) ?_ 2 _ rfl; (with_reducible repeat (first | refine blk_drewN ?_ _ | refine blk_drew ?_ | refine blk_alloc ?_ _)); refine blk_put (cs := #[.int .i64 ((rd_T34 t489 x68_3).f0), .int .i64 0, .int .i64 0, .int .i64 0, .int .i64 0]) ?_ 1 _ rfl; (with_reducible repeat (first | refine blk_drewN ?_ _ | refine blk_drew ?_ | refine blk_alloc ?_ _)); refine blk_put (cs := #[.int .i64 0, .int .i64 0, .int .i64 0, .int .i64 0, .int .i64 0]) ?_ 0 _ rfl; (with_reducible repeat (first | refine blk_drewN ?_ _ | refine blk_drew ?_ | refine blk_alloc ?_ _)); exact BK507.out) k_ hk⟩)); (case aO => exact (by (with_reducible repeat (first | apply Kd.R_alloc | apply Kd.R_drewN | apply Kd.R_drew)); exact Kd.R_mono (Kd.R_far (p := ⟨gb507, 4, none⟩) (Kd.R_far (p := ⟨gb507, 3, none⟩) (Kd.R_far (p := ⟨gb507, 2, none⟩) (Kd.R_far (p := ⟨gb507, 1, none⟩) (Kd.R_far (p := ⟨gb507, 0, none⟩) (Kd.R_mono HO_17.out (fun k_ hk => (⟨hk, hk.2⟩ : _ ∧ k_ ≠ gb507))) (fun _ hk => hk.2) (.int .i64 ((rd_T34 t489 x68_3).f0))) (fun _ hk => hk.2) (.int .i64 ((rd_T34 t489 x68_3).f1))) (fun _ hk => hk.2) (.int .i64 ((rd_T34 t489 x68_3).f2))) (fun _ hk => hk.2) (.int .i64 ((rd_T34 t489 x68_3).f3))) (fun _ hk => hk.2) (.int .i64 ((rd_T34 t489 x68_3).f4))) (fun _ hk => ⟨hk.1.1.1, ⟨hk.1.1.2, hk.1.2⟩⟩))); (case aS => exact (below_size (by repeat (first | (with_reducible first | exact HB.out | apply below_alloc | apply pw_below_drewN | apply below_drew1 | refine below_set ?_ GE507.out) | exact HB.out)))); (case aL => have := LMc43.out; omega); intro v509 w46 ho hb hg hat; rw [← Ny508.out] at ho; have n0_ := Aside0.mk (Kd.R_after (ok := (fun k_ => some k_ ≠ (.slice (some ad506) t489.length co37 : Value).ownBlock ∧ k_ ≠ gb507)) (by (with_reducible repeat (first | apply Kd.R_alloc | apply Kd.R_drewN | apply Kd.R_drew)); exact Kd.R_mono (Kd.R_far (p := ⟨gb507, 4, none⟩) (Kd.R_far (p := ⟨gb507, 3, none⟩) (Kd.R_far (p := ⟨gb507, 2, none⟩) (Kd.R_far (p := ⟨gb507, 1, none⟩) (Kd.R_far (p := ⟨gb507, 0, none⟩) (Kd.R_mono HO_15.out (fun k_ hk => (⟨hk, hk.2⟩ : _ ∧ k_ ≠ gb507))) (fun _ hk => hk.2) (.int .i64 ((rd_T34 t489 x68_3).f0))) (fun _ hk => hk.2) (.int .i64 ((rd_T34 t489 x68_3).f1))) (fun _ hk => hk.2) (.int .i64 ((rd_T34 t489 x68_3).f2))) (fun _ hk => hk.2) (.int .i64 ((rd_T34 t489 x68_3).f3))) (fun _ hk => hk.2) (.int .i64 ((rd_T34 t489 x68_3).f4))) (fun _ hk => ⟨⟨hk.1.1.2, hk.1.2⟩, hk.1.1.1⟩)) hg hat); have n1_ := Aside0.mk (Kd.R_after (ok := (fun k_ => some k_ ≠ (v503 : Value).ownBlock ∧ k_ ≠ gb507)) (by (with_reducible repeat (first | apply Kd.R_alloc | apply Kd.R_drewN | apply Kd.R_drew)); exact Kd.R_mono (Kd.R_far (p := ⟨gb507, 4, none⟩) (Kd.R_far (p := ⟨gb507, 3, none⟩) (Kd.R_far (p := ⟨gb507, 2, none⟩) (Kd.R_far (p := ⟨gb507, 1, none⟩) (Kd.R_far (p := ⟨gb507, 0, none⟩) (Kd.R_mono HO_66.out (fun k_ hk => (⟨hk, hk.2⟩ : _ ∧ k_ ≠ gb507))) (fun _ hk => hk.2) (.int .i64 ((rd_T34 t489 x68_3).f0))) (fun _ hk => hk.2) (.int .i64 ((rd_T34 t489 x68_3).f1))) (fun _ hk => hk.2) (.int .i64 ((rd_T34 t489 x68_3).f2))) (fun _ hk => hk.2) (.int .i64 ((rd_T34 t489 x68_3).f3))) (fun _ hk => hk.2) (.int .i64 ((rd_T34 t489 x68_3).f4))) (fun _ hk => ⟨⟨hk.1.1.1, hk.1.2⟩, hk.1.1.2⟩)) hg hat); have n2_ := Aside0.mk (blk_grown (g := gb507) (o := .cells #[.int .i64 ((rd_T34 t489 x68_3).f0), .int .i64 ((rd_T34 t489 x68_3).f1), .int .i64 ((rd_T34 t489 x68_3).f2), .int .i64 ((rd_T34 t489 x68_3).f3), .int .i64 ((rd_T34 t489 x68_3).f4)] 34 (0, 0)) (by (with_reducible repeat (first | refine blk_drewN ?_ _ | refine blk_drew ?_ | refine blk_alloc ?_ _)); refine blk_put (cs := #[.int .i64 ((rd_T34 t489 x68_3).f0), .int .i64 ((rd_T34 t489 x68_3).f1), .int .i64 ((rd_T34 t489 x68_3).f2), .int .i64 ((rd_T34 t489 x68_3).f3), .int .i64 0]) ?_ 4 _ rfl; (with_reducible repeat (first | refine blk_drewN ?_ _ | refine blk_drew ?_ | refine blk_alloc ?_ _)); refine blk_put (cs := #[.int .i64 ((rd_T34 t489 x68_3).f0), .int .i64 ((rd_T34 t489 x68_3).f1), .int .i64 ((rd_T34 t489 x68_3).f2), .int .i64 0, .int .i64 0]) ?_ 3 _ rfl; (with_reducible repeat (first | refine blk_drewN ?_ _ | refine blk_drew ?_ | refine blk_alloc ?_ _)); refine blk_put (cs := #[.int .i64 ((rd_T34 t489 x68_3).f0), .int .i64 ((rd_T34 t489 x68_3).f1), .int .i64 0, .int .i64 0, .int .i64 0]) ?_ 2 _ rfl; (with_reducible repeat (first | refine blk_drewN ?_ _ | refine blk_drew ?_ | refine blk_alloc ?_ _)); refine blk_put (cs := #[.int .i64 ((rd_T34 t489 x68_3).f0), .int .i64 0, .int .i64 0, .int .i64 0, .int .i64 0]) ?_ 1 _ rfl; (with_reducible repeat (first | refine blk_drewN ?_ _ | refine blk_drew ?_ | refine blk_alloc ?_ _)); refine blk_put (cs := #[.int .i64 0, .int .i64 0, .int .i64 0, .int .i64 0, .int .i64 0]) ?_ 0 _ rfl; (with_reducible repeat (first | refine blk_drewN ?_ _ | refine blk_drew ?_ | refine blk_alloc ?_ _)); exact BK507.out) hg (Kd.R_away HO_17.out (fun _ hk => hk.2))); have n3_ := Aside0.mk (hb); have n4_ := Aside0.mk (ho); clear HO_15; clear HO_66; clear BK507; clear HB; clear HO_17; have HO_15 := n0_; have HO_66 := n1_; have BK507 := n2_; have HB := n3_; have HO510 := n4_; clear n0_ n1_ n2_ n3_ n4_; clear ho hb hg hat))
                                      go_roundg k3
                                      case measure => have := HK1.out; have := HJ11.out; have := HK3.out; omega
                                      case rel => exact ⟨(y508), (wrap64 (x68_3 + 1)), (by first | rfl | (simp; done) | (simp [*]; done)), H', ⟨by have := HK1.out; have := HJ11.out; have := HK3.out; omega⟩, ⟨by (with_reducible repeat (first | apply Kd.R_alloc | apply Kd.R_drewN | apply Kd.R_drew)); exact Kd.R_mono HO_15.out (fun _ hk => ⟨hk.2, hk.1.1⟩)⟩, ⟨by (with_reducible repeat (first | apply Kd.R_alloc | apply Kd.R_drewN | apply Kd.R_drew)); exact Kd.R_mono HO510.out (fun _ hk => ⟨hk.1, hk.2.1⟩)⟩, ⟨by (with_reducible repeat (first | apply Kd.R_alloc | apply Kd.R_drewN | apply Kd.R_drew)); exact Kd.R_mono HO_66.out (fun _ hk => ⟨hk.1.1, hk.2⟩)⟩, ⟨by repeat (first | (with_reducible first | exact HB.out | apply below_alloc | apply pw_below_drewN | apply below_drew1 | refine below_set ?_ GE507.out) | exact HB.out)⟩⟩
                                    · rw [if_neg c43] at H
                                      exact absurd H (by simp)
                                  · rw [if_neg c42] at H
                                    have c42b0 : decide (((rd_T34 t489 x68_3).f0) < ji25) = false := decide_eq_false c42
                                    clear c42
                                    have H' := Aside0.mk H
                                    clear H
                                    have p506 : 0 ≤ (x68_3 : Int) := of_decide_eq_true (by first | (with_reducible assumption) | assumption)
                                    have q506 : x68_3 < (t489.length : Int) := of_decide_eq_true (by first | (with_reducible assumption) | assumption)
                                    obtain ⟨ad506, e506, hx506_0, hx506_1, hx506_2, hx506_3, hx506_4⟩ := at_T34 (Kd.R_reads' HO_66.out).2.2 x68_3 p506 q506
                                    cases e506
                                    replace p506 := eq_true p506
                                    replace q506 := eq_true q506
                                    go_wp2_with (first | ((with_reducible refine gate_dst (N := 19) rfl ?_); refine box_event ?hg (N := 19) ?hd (cs := #[.int .i64 0, .int .i64 0, .int .i64 0, .int .i64 0, .int .i64 0]) (t := 34) ?hr ?_; (case hd => rfl); (case hg => rfl); (case hr => first | (go_simp; done) | (go_simp; rfl)); intro gb507 hg w47 hbox hb; have n0_ := Aside0.mk (Kd.R_below (Kd.R_elderB (by (with_reducible repeat (first | apply Kd.R_alloc | apply Kd.R_drewN | apply Kd.R_drew)); exact HO_15.out) gb507 (Nat.le_of_eq hg.symm)) hb); have n1_ := Aside0.mk (Kd.R_below (Kd.R_elderB (by (with_reducible repeat (first | apply Kd.R_alloc | apply Kd.R_drewN | apply Kd.R_drew)); exact HO_17.out) gb507 (Nat.le_of_eq hg.symm)) hb); have n2_ := Aside0.mk (Kd.R_below (Kd.R_elderB (by (with_reducible repeat (first | apply Kd.R_alloc | apply Kd.R_drewN | apply Kd.R_drew)); exact HO_66.out) gb507 (Nat.le_of_eq hg.symm)) hb); have n3_ := Aside0.mk (below_step (by repeat (first | (with_reducible first | exact HB.out | apply below_alloc | apply pw_below_drewN | apply below_drew1) | exact HB.out)) hb); have n4_ := Aside0.mk (hbox); have n5_ := Aside0.mk ((by rw [hg]; exact (below_size (by repeat (first | (with_reducible first | exact HB.out | apply below_alloc | apply pw_below_drewN | apply below_drew1) | exact HB.out))) : w.heap.size ≤ gb507)); have n6_ := Aside0.mk ((by rw [hg]; exact (below_size (by repeat (first | (with_reducible first | exact HB.out | apply below_alloc | apply pw_below_drewN | apply below_drew1) | exact HB.out))) : w.heap.size ≤ gb507)); clear HO_15; clear HO_17; clear HO_66; clear HB; have HO_15 := n0_; have HO_17 := n1_; have HO_66 := n2_; have HB := n3_; have BK507 := n4_; have GW507 := n5_; have GE507 := n6_; clear n0_ n1_ n2_ n3_ n4_ n5_ n6_; clear hb hbox hg; have hcz48_0 : w47.cell? ⟨gb507, 0, none⟩ = some (.int .i64 0) := (blk_cell BK507.out 0).trans rfl; have hcz48_1 : w47.cell? ⟨gb507, 1, none⟩ = some (.int .i64 0) := (blk_cell BK507.out 1).trans rfl; have hcz48_2 : w47.cell? ⟨gb507, 2, none⟩ = some (.int .i64 0) := (blk_cell BK507.out 2).trans rfl; have hcz48_3 : w47.cell? ⟨gb507, 3, none⟩ = some (.int .i64 0) := (blk_cell BK507.out 3).trans rfl; have hcz48_4 : w47.cell? ⟨gb507, 4, none⟩ = some (.int .i64 0) := (blk_cell BK507.out 4).trans rfl; have hfz48_0 := blk_frozen BK507.out 0; have hfz48_1 := blk_frozen BK507.out 1; have hfz48_2 := blk_frozen BK507.out 2; have hfz48_3 := blk_frozen BK507.out 3; have hfz48_4 := blk_frozen BK507.out 4))
                                    go_roundg k3
                                    case measure => have := HK1.out; have := HJ11.out; have := HK3.out; omega
                                    case rel => exact ⟨(x17_3), (wrap64 (x68_3 + 1)), (by first | rfl | (simp; done) | (simp [*]; done)), H', ⟨by have := HK1.out; have := HJ11.out; have := HK3.out; omega⟩, ⟨by (with_reducible repeat (first | apply Kd.R_alloc | apply Kd.R_drewN | apply Kd.R_drew)); exact Kd.R_mono (Kd.R_far (p := ⟨gb507, 4, none⟩) (Kd.R_far (p := ⟨gb507, 3, none⟩) (Kd.R_far (p := ⟨gb507, 2, none⟩) (Kd.R_far (p := ⟨gb507, 1, none⟩) (Kd.R_far (p := ⟨gb507, 0, none⟩) (Kd.R_mono HO_15.out (fun k_ hk => (⟨hk, hk.2⟩ : _ ∧ k_ ≠ gb507))) (fun _ hk => hk.2) (.int .i64 ((rd_T34 t489 x68_3).f0))) (fun _ hk => hk.2) (.int .i64 ((rd_T34 t489 x68_3).f1))) (fun _ hk => hk.2) (.int .i64 ((rd_T34 t489 x68_3).f2))) (fun _ hk => hk.2) (.int .i64 ((rd_T34 t489 x68_3).f3))) (fun _ hk => hk.2) (.int .i64 ((rd_T34 t489 x68_3).f4))) (fun _ hk => ⟨hk.1.1.1, hk.1.1.2⟩)⟩, ⟨by (with_reducible repeat (first | apply Kd.R_alloc | apply Kd.R_drewN | apply Kd.R_drew)); exact Kd.R_mono (Kd.R_far (p := ⟨gb507, 4, none⟩) (Kd.R_far (p := ⟨gb507, 3, none⟩) (Kd.R_far (p := ⟨gb507, 2, none⟩) (Kd.R_far (p := ⟨gb507, 1, none⟩) (Kd.R_far (p := ⟨gb507, 0, none⟩) (Kd.R_mono HO_17.out (fun k_ hk => (⟨hk, hk.2⟩ : _ ∧ k_ ≠ gb507))) (fun _ hk => hk.2) (.int .i64 ((rd_T34 t489 x68_3).f0))) (fun _ hk => hk.2) (.int .i64 ((rd_T34 t489 x68_3).f1))) (fun _ hk => hk.2) (.int .i64 ((rd_T34 t489 x68_3).f2))) (fun _ hk => hk.2) (.int .i64 ((rd_T34 t489 x68_3).f3))) (fun _ hk => hk.2) (.int .i64 ((rd_T34 t489 x68_3).f4))) (fun _ hk => ⟨hk.1.1.1, hk.1.1.2⟩)⟩, ⟨by (with_reducible repeat (first | apply Kd.R_alloc | apply Kd.R_drewN | apply Kd.R_drew)); exact Kd.R_mono (Kd.R_far (p := ⟨gb507, 4, none⟩) (Kd.R_far (p := ⟨gb507, 3, none⟩) (Kd.R_far (p := ⟨gb507, 2, none⟩) (Kd.R_far (p := ⟨gb507, 1, none⟩) (Kd.R_far (p := ⟨gb507, 0, none⟩) (Kd.R_mono HO_66.out (fun k_ hk => (⟨hk, hk.2⟩ : _ ∧ k_ ≠ gb507))) (fun _ hk => hk.2) (.int .i64 ((rd_T34 t489 x68_3).f0))) (fun _ hk => hk.2) (.int .i64 ((rd_T34 t489 x68_3).f1))) (fun _ hk => hk.2) (.int .i64 ((rd_T34 t489 x68_3).f2))) (fun _ hk => hk.2) (.int .i64 ((rd_T34 t489 x68_3).f3))) (fun _ hk => hk.2) (.int .i64 ((rd_T34 t489 x68_3).f4))) (fun _ hk => ⟨hk.1.1.1, hk.1.1.2⟩)⟩, ⟨by repeat (first | (with_reducible first | exact HB.out | apply below_alloc | apply pw_below_drewN | apply below_drew1 | refine below_set ?_ GE507.out) | exact HB.out)⟩⟩
                                · rw [if_neg c41] at H
                                  have c41b0 : (((rd_T34 t489 x68_3).f4) == 0) = false := beq_eq_false_iff_ne.mpr c41
                                  have c41b1 : (((rd_T34 t489 x68_3).f4) != 0) = true := bne_iff_ne.mpr c41
                                  obtain rfl := Option.some.inj H
                                  have p506 : 0 ≤ (x68_3 : Int) := of_decide_eq_true (by first | (with_reducible assumption) | assumption)
                                  have q506 : x68_3 < (t489.length : Int) := of_decide_eq_true (by first | (with_reducible assumption) | assumption)
                                  obtain ⟨ad506, e506, hx506_0, hx506_1, hx506_2, hx506_3, hx506_4⟩ := at_T34 (Kd.R_reads' HO_66.out).2.2 x68_3 p506 q506
                                  cases e506
                                  replace p506 := eq_true p506
                                  replace q506 := eq_true q506
                                  go_wp2_with (first | ((with_reducible refine gate_dst (N := 19) rfl ?_); refine box_event ?hg (N := 19) ?hd (cs := #[.int .i64 0, .int .i64 0, .int .i64 0, .int .i64 0, .int .i64 0]) (t := 34) ?hr ?_; (case hd => rfl); (case hg => rfl); (case hr => first | (go_simp; done) | (go_simp; rfl)); intro gb507 hg w49 hbox hb; have n0_ := Aside0.mk (Kd.R_below (Kd.R_elderB (by (with_reducible repeat (first | apply Kd.R_alloc | apply Kd.R_drewN | apply Kd.R_drew)); exact HO_15.out) gb507 (Nat.le_of_eq hg.symm)) hb); have n1_ := Aside0.mk (Kd.R_below (Kd.R_elderB (by (with_reducible repeat (first | apply Kd.R_alloc | apply Kd.R_drewN | apply Kd.R_drew)); exact HO_17.out) gb507 (Nat.le_of_eq hg.symm)) hb); have n2_ := Aside0.mk (Kd.R_below (Kd.R_elderB (by (with_reducible repeat (first | apply Kd.R_alloc | apply Kd.R_drewN | apply Kd.R_drew)); exact HO_66.out) gb507 (Nat.le_of_eq hg.symm)) hb); have n3_ := Aside0.mk (below_step (by repeat (first | (with_reducible first | exact HB.out | apply below_alloc | apply pw_below_drewN | apply below_drew1) | exact HB.out)) hb); have n4_ := Aside0.mk (hbox); have n5_ := Aside0.mk ((by rw [hg]; exact (below_size (by repeat (first | (with_reducible first | exact HB.out | apply below_alloc | apply pw_below_drewN | apply below_drew1) | exact HB.out))) : w.heap.size ≤ gb507)); have n6_ := Aside0.mk ((by rw [hg]; exact (below_size (by repeat (first | (with_reducible first | exact HB.out | apply below_alloc | apply pw_below_drewN | apply below_drew1) | exact HB.out))) : w.heap.size ≤ gb507)); clear HO_15; clear HO_17; clear HO_66; clear HB; have HO_15 := n0_; have HO_17 := n1_; have HO_66 := n2_; have HB := n3_; have BK507 := n4_; have GW507 := n5_; have GE507 := n6_; clear n0_ n1_ n2_ n3_ n4_ n5_ n6_; clear hb hbox hg; have hcz50_0 : w49.cell? ⟨gb507, 0, none⟩ = some (.int .i64 0) := (blk_cell BK507.out 0).trans rfl; have hcz50_1 : w49.cell? ⟨gb507, 1, none⟩ = some (.int .i64 0) := (blk_cell BK507.out 1).trans rfl; have hcz50_2 : w49.cell? ⟨gb507, 2, none⟩ = some (.int .i64 0) := (blk_cell BK507.out 2).trans rfl; have hcz50_3 : w49.cell? ⟨gb507, 3, none⟩ = some (.int .i64 0) := (blk_cell BK507.out 3).trans rfl; have hcz50_4 : w49.cell? ⟨gb507, 4, none⟩ = some (.int .i64 0) := (blk_cell BK507.out 4).trans rfl; have hfz50_0 := blk_frozen BK507.out 0; have hfz50_1 := blk_frozen BK507.out 1; have hfz50_2 := blk_frozen BK507.out 2; have hfz50_3 := blk_frozen BK507.out 3; have hfz50_4 := blk_frozen BK507.out 4))
                                  go_ret
                                  exact ⟨by first | rfl | (simp [errW_none, errW_some] <;> rfl) | (simp only [← hji25]; first | rfl | (simp [errW_none, errW_some] <;> rfl)) | (simp [*, errW_none, errW_some] <;> rfl), by repeat (first | (with_reducible first | exact HB.out | apply below_alloc | apply pw_below_drewN | apply below_drew1 | refine below_set ?_ GE507.out) | exact HB.out)⟩
                              · rw [if_neg c40] at H
                                exact absurd H (by simp)
                            · rw [if_neg c39] at H
                              exact absurd H (by simp)
                          · rw [if_neg c38] at H
                            have c38b0 : decide (x68_3 < (t489.length : Int)) = false := decide_eq_false c38
                            clear c38
                            by_cases c51 : t490 = 0
                            · rw [if_pos c51] at H
                              have c51b0 : (t490 == 0) = true := beq_iff_eq.mpr c51
                              have c51b1 : (t490 != 0) = false := bne_eq_false_iff_eq.mpr c51
                              clear c51
                              by_cases c52 : t502 = 0
                              · rw [if_pos c52] at H
                                have c52b0 : (t502 == 0) = true := beq_iff_eq.mpr c52
                                have c52b1 : (t502 != 0) = false := bne_eq_false_iff_eq.mpr c52
                                clear c52
                                replace H := Option.bind_eq_some_iff.mp H
                                obtain ⟨t505, A530, H⟩ := H
                                replace H : (some t505) = some r := H
                                have A53 := Aside0.mk A530
                                clear A530
                                obtain rfl := Option.some.inj H
                                obtain ⟨Ao54, co54, eo54⟩ := Kd.R_slice HO_17.out
                                subst eo54
                                obtain ⟨Ao55, co55, eo55⟩ := Kd.R_slice HO_15.out
                                subst eo55
                                go_wp2_with (first | (go_at_call 38; (with_reducible refine (ceiling_Job.calls k3 _ _ x17_3 _ _ t501 t505 _ ?side1 ?side2 ?side3 ?side4 A53.out).mono ?_); (case side1 => repeat (first | exact (Kd.R_reads' HO_17.out).2.2 | (with_reducible refine Kd.C_alloc ?_ _) | (with_reducible refine Kd.C_drewN ?_ _) | (with_reducible refine Kd.C_drew ?_))); (case side2 => exact (Kd.R_reads' HO_17.out).2.1); (case side3 => repeat (first | exact (Kd.R_reads' HO_15.out).2.2 | (with_reducible refine Kd.C_alloc ?_ _) | (with_reducible refine Kd.C_drewN ?_ _) | (with_reducible refine Kd.C_drew ?_))); (case side4 => exact (Kd.R_reads' HO_15.out).2.1); rintro e w' ⟨rfl, ⟨nd, rfl⟩⟩))
                                go_ret
                                exact ⟨by first | rfl | (simp [errW_none, errW_some] <;> rfl) | (simp only [← hji25]; first | rfl | (simp [errW_none, errW_some] <;> rfl)) | (simp [*, errW_none, errW_some] <;> rfl), by repeat (first | (with_reducible first | exact HB.out | apply below_alloc | apply pw_below_drewN | apply below_drew1) | exact HB.out)⟩
                              · rw [if_neg c52] at H
                                have c52b0 : (t502 == 0) = false := beq_eq_false_iff_ne.mpr c52
                                have c52b1 : (t502 != 0) = true := bne_iff_ne.mpr c52
                                obtain rfl := Option.some.inj H
                                go_wp2
                                go_ret
                                exact ⟨by first | rfl | (simp [errW_none, errW_some] <;> rfl) | (simp only [← hji25]; first | rfl | (simp [errW_none, errW_some] <;> rfl)) | (simp [*, errW_none, errW_some] <;> rfl), by repeat (first | (with_reducible first | exact HB.out | apply below_alloc | apply pw_below_drewN | apply below_drew1) | exact HB.out)⟩
                            · rw [if_neg c51] at H
                              have c51b0 : (t490 == 0) = false := beq_eq_false_iff_ne.mpr c51
                              have c51b1 : (t490 != 0) = true := bne_iff_ne.mpr c51
                              obtain rfl := Option.some.inj H
                              go_wp2
                              go_ret
                              exact ⟨by first | rfl | (simp [errW_none, errW_some] <;> rfl) | (simp only [← hji25]; first | rfl | (simp [errW_none, errW_some] <;> rfl)) | (simp [*, errW_none, errW_some] <;> rfl), by repeat (first | (with_reducible first | exact HB.out | apply below_alloc | apply pw_below_drewN | apply below_drew1) | exact HB.out)⟩
                    · rw [if_neg c29] at H
                      exact absurd H (by simp)
                  · rw [if_neg c27] at H
                    exact absurd H (by simp)
                · rw [if_neg c26] at H
                  exact absurd H (by simp)

end Go.Proofs.Ytcmifojplgmgkaa.P
