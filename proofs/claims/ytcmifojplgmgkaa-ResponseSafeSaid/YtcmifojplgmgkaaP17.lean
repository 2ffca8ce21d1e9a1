-- written by wip/drive.py (a driver of this session's own over the kit's print.py)
import Derived.Test.YtcmifojplgmgkaaP0
namespace Go.Proofs.Ytcmifojplgmgkaa.P
open Go.RowKit Go.Proofs.YtcmifojplgmgkaaW.PrintWords Go.Proofs.YtcmifojplgmgkaaW.PrintLast Go.Proofs.YtcmifojplgmgkaaW.PrintMore
attribute [local go_sem] max2_int min2_int max_two min_two max_three min_three max_four min_four   -- for this text's walks alone
set_option linter.unusedVariables false
set_option linter.unusedSimpArgs false

/-! ### ontimelaw44_releases: function 22 -/
mutual
def ontimelaw44_releases.l0 : Nat → List Int → List Int → List (List Int) → List (S49) → Int → Int → Option ((List (List Int)))
  | 0, _, _, _, _, _, _ => none
  | k + 1, x1, x2, x7, x15, x16, x17 => if x17 < x16 then (if 0 ≤ x17 then (if x17 < (x15.length : Int) then (if x17 < (x1.length : Int) then (ontimelaw44_releases.j1 k x1 x2 x7 x17 (wrap64 (rd x1 x17)) x15 x16 x17 ((rd_T49 x15 x17).f0) ((rd_T49 x15 x17).f1) ((rd_T49 x15 x17).f2) ((rd_T49 x15 x17).f3)) else (ontimelaw44_releases.j1 k x1 x2 x7 x17 0 x15 x16 x17 ((rd_T49 x15 x17).f0) ((rd_T49 x15 x17).f1) ((rd_T49 x15 x17).f2) ((rd_T49 x15 x17).f3))) else (none)) else (none)) else (some x7)
def ontimelaw44_releases.j1 : Nat → List Int → List Int → List (List Int) → Int → Int → List (S49) → Int → Int → Int → Int → Int → List (S68) → Option ((List (List Int)))
  | 0, _, _, _, _, _, _, _, _, _, _, _, _ => none
  | k + 1, x1, x2, x7, x8, x10, x15, x16, x17, x172000, x172001, x172002, x172003 => ontimelaw44_releases.l1 k x1 x2 x7 x8 x10 0 x15 x16 x17 x172000 x172001 x172002 x172003
def ontimelaw44_releases.l1 : Nat → List Int → List Int → List (List Int) → Int → Int → Int → List (S49) → Int → Int → Int → Int → Int → List (S68) → Option ((List (List Int)))
  | 0, _, _, _, _, _, _, _, _, _, _, _, _, _ => none
  | k + 1, x1, x2, x7, x8, x10, x11, x15, x16, x17, x172000, x172001, x172002, x172003 => if x11 < 12 then (ontimelaw44_releases.j3 k x1 x2 x7 x8 x10 x11 x15 x16 x17 (decide (x10 < 400)) x172000 x172001 x172002 x172003) else (ontimelaw44_releases.j3 k x1 x2 x7 x8 x10 x11 x15 x16 x17 false x172000 x172001 x172002 x172003)
def ontimelaw44_releases.j3 : Nat → List Int → List Int → List (List Int) → Int → Int → Int → List (S49) → Int → Int → Bool → Int → Int → Int → List (S68) → Option ((List (List Int)))
  | 0, _, _, _, _, _, _, _, _, _, _, _, _, _, _ => none
  | k + 1, x1, x2, x7, x8, x10, x11, x15, x16, x17, x36, x172000, x172001, x172002, x172003 => if x36 = true then (if 0 ≤ x8 then (if x8 < (x7.length : Int) then (if (rd_L5 x7 x8).length < 17592186044416 then ((some (x7.set (x8 : Int).toNat ((rd_L5 x7 x8) ++ [x10]) : List (List Int))).bind fun y177 => (if (x2.length : Int) > 0 then (if (x2.length : Int) = 0 then (none) else (if 0 ≤ (Int.tmod (wrap64 ((wrap64 (x8 * 7)) + x11)) (x2.length : Int)) then (if (Int.tmod (wrap64 ((wrap64 (x8 * 7)) + x11)) (x2.length : Int)) < (x2.length : Int) then (ontimelaw44_releases.l1 k x1 x2 y177 x8 (wrap64 ((wrap64 (x10 + x172001)) + (Int.tmod (wrap64 (rd x2 (Int.tmod (wrap64 ((wrap64 (x8 * 7)) + x11)) (x2.length : Int)))) 8))) (wrap64 (x11 + 1)) x15 x16 x17 x172000 x172001 x172002 x172003) else (none)) else (none))) else (ontimelaw44_releases.l1 k x1 x2 y177 x8 (wrap64 (x10 + x172001)) (wrap64 (x11 + 1)) x15 x16 x17 x172000 x172001 x172002 x172003))) else (none)) else (none)) else (none)) else (ontimelaw44_releases.l0 k x1 x2 x7 x15 x16 (wrap64 (x17 + 1)))
end
def ontimelaw44_releases.f (k : Nat) (l0 : List (S49)) (l1 : List Int) (l2 : List Int) : Option ((List (List Int))) := if 0 ≤ (l0.length : Int) then (if ((l0.length : Int) : Int).toNat ≤ 11728124029610 then (ontimelaw44_releases.l0 k l1 l2 (List.replicate ((l0.length : Int) : Int).toNat []) l0 (l0.length : Int) 0) else (none)) else (none)
theorem ontimelaw44_releases.mono_l : ∀ k, (∀ y0 y1 y2 y3 y4 y5, LeO (ontimelaw44_releases.l0 k y0 y1 y2 y3 y4 y5) (ontimelaw44_releases.l0 (k + 1) y0 y1 y2 y3 y4 y5)) ∧ (∀ y0 y1 y2 y3 y4 y5 y6 y7 y8 y9 y10 y11, LeO (ontimelaw44_releases.j1 k y0 y1 y2 y3 y4 y5 y6 y7 y8 y9 y10 y11) (ontimelaw44_releases.j1 (k + 1) y0 y1 y2 y3 y4 y5 y6 y7 y8 y9 y10 y11)) ∧ (∀ y0 y1 y2 y3 y4 y5 y6 y7 y8 y9 y10 y11 y12, LeO (ontimelaw44_releases.l1 k y0 y1 y2 y3 y4 y5 y6 y7 y8 y9 y10 y11 y12) (ontimelaw44_releases.l1 (k + 1) y0 y1 y2 y3 y4 y5 y6 y7 y8 y9 y10 y11 y12)) ∧ (∀ y0 y1 y2 y3 y4 y5 y6 y7 y8 y9 y10 y11 y12 y13, LeO (ontimelaw44_releases.j3 k y0 y1 y2 y3 y4 y5 y6 y7 y8 y9 y10 y11 y12 y13) (ontimelaw44_releases.j3 (k + 1) y0 y1 y2 y3 y4 y5 y6 y7 y8 y9 y10 y11 y12 y13))
  | 0 => ⟨fun _ _ _ _ _ _ r h => by simp [ontimelaw44_releases.l0] at h, fun _ _ _ _ _ _ _ _ _ _ _ _ r h => by simp [ontimelaw44_releases.j1] at h, fun _ _ _ _ _ _ _ _ _ _ _ _ _ r h => by simp [ontimelaw44_releases.l1] at h, fun _ _ _ _ _ _ _ _ _ _ _ _ _ _ r h => by simp [ontimelaw44_releases.j3] at h⟩
  | k + 1 => by
    obtain ⟨ih0, ih1, ih2, ih3⟩ := ontimelaw44_releases.mono_l k
    refine ⟨?_, ?_, ?_, ?_⟩
    · intro y0 y1 y2 y3 y4 y5
      unfold ontimelaw44_releases.l0
      repeat' first
      | (with_reducible exact ih0 _ _ _ _ _ _)
      | (with_reducible exact ih1 _ _ _ _ _ _ _ _ _ _ _ _)
      | (with_reducible exact ih2 _ _ _ _ _ _ _ _ _ _ _ _ _)
      | (with_reducible exact ih3 _ _ _ _ _ _ _ _ _ _ _ _ _ _)
      | (with_reducible exact LeO.refl _)
      | (with_reducible exact LeO.none _)
      | (with_reducible refine LeO.ite ?_ ?_)
      | (with_reducible refine LeO.bind ?_ (fun _ => ?_))
      | exact ih0 _ _ _ _ _ _
      | exact ih1 _ _ _ _ _ _ _ _ _ _ _ _
      | exact ih2 _ _ _ _ _ _ _ _ _ _ _ _ _
      | exact ih3 _ _ _ _ _ _ _ _ _ _ _ _ _ _
      | exact LeO.none _
      | refine LeO.ite ?_ ?_
      | refine LeO.bind ?_ (fun _ => ?_)
    · intro y0 y1 y2 y3 y4 y5 y6 y7 y8 y9 y10 y11
      unfold ontimelaw44_releases.j1
      repeat' first
      | (with_reducible exact ih0 _ _ _ _ _ _)
      | (with_reducible exact ih1 _ _ _ _ _ _ _ _ _ _ _ _)
      | (with_reducible exact ih2 _ _ _ _ _ _ _ _ _ _ _ _ _)
      | (with_reducible exact ih3 _ _ _ _ _ _ _ _ _ _ _ _ _ _)
      | (with_reducible exact LeO.refl _)
      | (with_reducible exact LeO.none _)
      | (with_reducible refine LeO.ite ?_ ?_)
      | (with_reducible refine LeO.bind ?_ (fun _ => ?_))
      | exact ih0 _ _ _ _ _ _
      | exact ih1 _ _ _ _ _ _ _ _ _ _ _ _
      | exact ih2 _ _ _ _ _ _ _ _ _ _ _ _ _
      | exact ih3 _ _ _ _ _ _ _ _ _ _ _ _ _ _
      | exact LeO.none _
      | refine LeO.ite ?_ ?_
      | refine LeO.bind ?_ (fun _ => ?_)
    · intro y0 y1 y2 y3 y4 y5 y6 y7 y8 y9 y10 y11 y12
      unfold ontimelaw44_releases.l1
      repeat' first
      | (with_reducible exact ih0 _ _ _ _ _ _)
      | (with_reducible exact ih1 _ _ _ _ _ _ _ _ _ _ _ _)
      | (with_reducible exact ih2 _ _ _ _ _ _ _ _ _ _ _ _ _)
      | (with_reducible exact ih3 _ _ _ _ _ _ _ _ _ _ _ _ _ _)
      | (with_reducible exact LeO.refl _)
      | (with_reducible exact LeO.none _)
      | (with_reducible refine LeO.ite ?_ ?_)
      | (with_reducible refine LeO.bind ?_ (fun _ => ?_))
      | exact ih0 _ _ _ _ _ _
      | exact ih1 _ _ _ _ _ _ _ _ _ _ _ _
      | exact ih2 _ _ _ _ _ _ _ _ _ _ _ _ _
      | exact ih3 _ _ _ _ _ _ _ _ _ _ _ _ _ _
      | exact LeO.none _
      | refine LeO.ite ?_ ?_
      | refine LeO.bind ?_ (fun _ => ?_)
    · intro y0 y1 y2 y3 y4 y5 y6 y7 y8 y9 y10 y11 y12 y13
      unfold ontimelaw44_releases.j3
      repeat' first
      | (with_reducible exact ih0 _ _ _ _ _ _)
      | (with_reducible exact ih1 _ _ _ _ _ _ _ _ _ _ _ _)
      | (with_reducible exact ih2 _ _ _ _ _ _ _ _ _ _ _ _ _)
      | (with_reducible exact ih3 _ _ _ _ _ _ _ _ _ _ _ _ _ _)
      | (with_reducible exact LeO.refl _)
      | (with_reducible exact LeO.none _)
      | (with_reducible refine LeO.ite ?_ ?_)
      | (with_reducible refine LeO.bind ?_ (fun _ => ?_))
      | exact ih0 _ _ _ _ _ _
      | exact ih1 _ _ _ _ _ _ _ _ _ _ _ _
      | exact ih2 _ _ _ _ _ _ _ _ _ _ _ _ _
      | exact ih3 _ _ _ _ _ _ _ _ _ _ _ _ _ _
      | exact LeO.none _
      | refine LeO.ite ?_ ?_
      | refine LeO.bind ?_ (fun _ => ?_)
theorem ontimelaw44_releases.mono : ∀ a0 a1 a2 k, LeO (ontimelaw44_releases.f k a0 a1 a2) (ontimelaw44_releases.f (k + 1) a0 a1 a2) := by
  intro a0 a1 a2 k
  obtain ⟨ih0, ih1, ih2, ih3⟩ := ontimelaw44_releases.mono_l k
  unfold ontimelaw44_releases.f
  repeat' first
      | (with_reducible exact ih0 _ _ _ _ _ _)
      | (with_reducible exact ih1 _ _ _ _ _ _ _ _ _ _ _ _)
      | (with_reducible exact ih2 _ _ _ _ _ _ _ _ _ _ _ _ _)
      | (with_reducible exact ih3 _ _ _ _ _ _ _ _ _ _ _ _ _ _)
      | (with_reducible exact LeO.refl _)
      | (with_reducible exact LeO.none _)
      | (with_reducible refine LeO.ite ?_ ?_)
      | (with_reducible refine LeO.bind ?_ (fun _ => ?_))
      | exact ih0 _ _ _ _ _ _
      | exact ih1 _ _ _ _ _ _ _ _ _ _ _ _
      | exact ih2 _ _ _ _ _ _ _ _ _ _ _ _ _
      | exact ih3 _ _ _ _ _ _ _ _ _ _ _ _ _ _
      | exact LeO.none _
      | refine LeO.ite ?_ ?_
      | refine LeO.bind ?_ (fun _ => ?_)
set_option maxHeartbeats 8000000 in
set_option maxRecDepth 100000 in
theorem ontimelaw44_releases.calls (k : Nat) (A0 : Option Addr) (c0 : Nat) (l0 : List (S49)) (A1 : Option Addr) (c1 : Nat) (l1 : List Int) (A2 : Option Addr) (c2 : Nat) (l2 : List Int) (r : List (List Int)) (w : World) (hr0 : Kd.C k49 w A0 l0.length l0) (hc0 : l0.length ≤ c0) (hr1 : Kd.C (Kd.int .u8) w A1 l1.length l1) (hc1 : l1.length ≤ c1) (hr2 : Kd.C (Kd.int .u8) w A2 l2.length l2) (hc2 : l2.length ≤ c2) (h : ontimelaw44_releases.f k l0 l1 l2 = some r) :
    Calls Try.prog 22 #[.slice A0 l0.length c0, .slice A1 l1.length c1, .slice A2 l2.length c2] w fun e w' => ∃ v0_ : Value, e = .returned (v0_) ∧ Kd.S (Kd.slice 3 (Kd.int .i64)) 38 w' w.heap.size (fun _ => True) v0_ r ∧ Below w.heap.size w w' := by
  have hu49 := Try.underlying49
  have HR0 := Aside0.mk hr0
  have HC0 := Aside0.mk hc0
  clear hr0 hc0
  have HR1 := Aside0.mk hr1
  have HC1 := Aside0.mk hc1
  clear hr1 hc1
  have HR2 := Aside0.mk hr2
  have HC2 := Aside0.mk hc2
  clear hr2 hc2
  have HB := Aside0.mk (Below.refl w.heap.size w)
  have H : (if 0 ≤ (l0.length : Int) then (if ((l0.length : Int) : Int).toNat ≤ 11728124029610 then (ontimelaw44_releases.l0 k l1 l2 (List.replicate ((l0.length : Int) : Int).toNat []) l0 (l0.length : Int) 0) else (none)) else (none)) = some r := h
  clear h
  by_cases c4 : 0 ≤ (l0.length : Int)
  · rw [if_pos c4] at H
    have c4b0 := eq_true c4
    have c4b1 : decide (0 ≤ (l0.length : Int)) = true := decide_eq_true c4
    clear c4
    by_cases c5 : ((l0.length : Int) : Int).toNat ≤ 11728124029610
    · rw [if_pos c5] at H
      have c5b0 := eq_true c5
      have c5b1 : decide (((l0.length : Int) : Int).toNat ≤ 11728124029610) = true := decide_eq_true c5
      clear c5
      obtain ⟨y167, hy167⟩ : ∃ y_ : List (List Int), y_ = (List.replicate ((l0.length : Int) : Int).toNat []) := ⟨_, rfl⟩
      replace H : (ontimelaw44_releases.l0 k l1 l2 y167 l0 (l0.length : Int) 0) = some r := by first | (rw [hy167]; with_reducible exact H) | (have H2_ := (Option.bind_some _ _).symm.trans H; rw [hy167]; with_reducible exact H2_) | (have H2_ := (Option.bind_some _ _).symm.trans H; with_reducible exact H2_) | with_reducible exact H | (rw [hy167]; exact H) | exact H
      have Ny167 := Aside0.mk hy167
      clear hy167
      have H' := Aside0.mk H
      clear H
      go_enter Try.func22, Try.ntmps22
      go_wp2_with (first | ((with_reducible refine gate_dst (N := 14) rfl ?_); refine Kd.S_make (Kd.slice 3 (Kd.int .i64)) _ 38 rfl (N := 14) rfl 30 _ _ rfl (l0.length : Int) rfl rfl Try.underlying30 (.slice none 0 0) 24 info38 rfl (by decide) (by omega) [] (ok := fun _ => True) (okp := fun _ => True) ⟨_, rfl, Kd.R_nil _ _ _ _ _⟩ (fun _ hk => hk) trivial (of_decide_eq_true (by first | (with_reducible assumption) | assumption)) (Nat.le_trans (Nat.mul_le_mul_right _ (of_decide_eq_true (by first | (with_reducible assumption) | assumption) : (l0.length : Int).toNat ≤ 11728124029610)) (by omega)) (Below.refl _ _) (Nat.le_refl _) ?_; intro v168 w6 ho7 hb hg_ hnew_; clear hg_ hnew_; (first | rw [← Ny167.out] at ho7 | (simp only [Int.reduceToNat] at ho7; rw [← Ny167.out] at ho7)); have n0_ := Aside0.mk (Kd.S_lower ho7 (below_size (by repeat (first | (with_reducible first | exact HB.out | apply below_alloc | apply pw_below_drewN | apply below_drew1) | exact HB.out)))); have n1_ := Aside0.mk (below_step (by repeat (first | (with_reducible first | exact HB.out | apply below_alloc | apply pw_below_drewN | apply below_drew1) | exact HB.out)) hb); clear HB; have HO169 := n0_; have HB := n1_; clear n0_ n1_; clear hb ho7))
      go_loopg [17] k (fun kq v17 w' => ∃ (x7_1 : List (List Int)) (x17_1 : Int), v17 = .int .i64 x17_1 ∧ Aside0 (ontimelaw44_releases.l0 kq l1 l2 x7_1 l0 (l0.length : Int) x17_1 = some r) ∧ Aside0 (kq ≤ k) ∧ Aside0 (Kd.S (Kd.slice 3 (Kd.int .i64)) 38 w' w.heap.size (fun _ => True) v168 x7_1) ∧ Aside0 (Below w.heap.size w w'))
      case atStart => exact ⟨(y167), (0), (by first | rfl | (simp; done) | (simp [*]; done)), H', ⟨Nat.le_refl _⟩, ⟨by (with_reducible repeat (first | apply Kd.S_alloc | apply Kd.S_drewN | apply Kd.S_drew)); exact HO169.out⟩, ⟨by repeat (first | (with_reducible first | exact HB.out | apply below_alloc | apply pw_below_drewN | apply below_drew1) | exact HB.out)⟩⟩
      case round =>
        clear H'
        try clear c1
        try clear c2
        try clear p2
        try clear c4
        try clear c4b0
        try clear c4b1
        try clear c5
        try clear c5b0
        try clear c5b1
        obtain ⟨x7_1, x17_1, rfl, HA, HK1, HO_7, HB⟩ := hrel
        cases gk with
        | zero => exact absurd HA.out (by simp [ontimelaw44_releases.l0])
        | succ k1 =>
          have H := HA.out
          clear HA
          simp only [ontimelaw44_releases.l0] at H
          by_cases c8 : x17_1 < (l0.length : Int)
          · rw [if_pos c8] at H
            have c8b0 : decide (x17_1 < (l0.length : Int)) = true := decide_eq_true c8
            clear c8
            by_cases c9 : 0 ≤ x17_1
            · rw [if_pos c9] at H
              have c9b0 : decide (0 ≤ x17_1) = true := decide_eq_true c9
              clear c9
              by_cases c10 : x17_1 < (l0.length : Int)
              · rw [if_pos c10] at H
                have c10b0 : decide (x17_1 < (l0.length : Int)) = true := decide_eq_true c10
                clear c10
                have HC11 := Aside0.mk H
                clear H
                have p170 : 0 ≤ (x17_1 : Int) := of_decide_eq_true (by first | (with_reducible assumption) | assumption)
                have q170 : x17_1 < (l0.length : Int) := of_decide_eq_true (by first | (with_reducible assumption) | assumption)
                obtain ⟨ad170, A170_3, c170_3, e170, hx170_0, hx170_1, hx170_2, hx170_3, hl170_3, hi170_3⟩ := at_T49 HR0.out x17_1 p170 q170
                cases e170
                replace hx170_0 := (HB.out.cell (World.block_lt_of_cell? w _ hx170_0)).trans hx170_0
                replace hx170_1 := (HB.out.cell (World.block_lt_of_cell? w _ hx170_1)).trans hx170_1
                replace hx170_2 := (HB.out.cell (World.block_lt_of_cell? w _ hx170_2)).trans hx170_2
                replace hx170_3 := (HB.out.cell (World.block_lt_of_cell? w _ hx170_3)).trans hx170_3
                have HR170_3 := Aside0.mk hi170_3
                have HC170_3 := Aside0.mk hl170_3
                clear hi170_3 hl170_3
                replace p170 := eq_true p170
                replace q170 := eq_true q170
                go_upto_if 25 with (first | ((with_reducible refine gate_dst (N := 9) rfl ?_); refine box_event ?hg (N := 9) ?hd (cs := #[.int .i64 0, .int .i64 0, .int .i64 0, .slice none 0 0]) (t := 49) ?hr ?_; (case hd => rfl); (case hg => rfl); (case hr => first | (go_simp; done) | (go_simp; rfl)); intro gb171 hg w12 hbox hb; have n0_ := Aside0.mk (Kd.S_below (by (with_reducible repeat (first | apply Kd.S_alloc | apply Kd.S_drewN | apply Kd.S_drew)); exact HO_7.out) hb); have n1_ := Aside0.mk (below_step (by repeat (first | (with_reducible first | exact HB.out | apply below_alloc | apply pw_below_drewN | apply below_drew1) | exact HB.out)) hb); have n2_ := Aside0.mk (hbox); have n3_ := Aside0.mk ((by rw [hg]; exact (below_size (by repeat (first | (with_reducible first | exact HB.out | apply below_alloc | apply pw_below_drewN | apply below_drew1) | exact HB.out))) : w.heap.size ≤ gb171)); have n4_ := Aside0.mk ((by rw [hg]; exact (below_size (by repeat (first | (with_reducible first | exact HB.out | apply below_alloc | apply pw_below_drewN | apply below_drew1) | exact HB.out))) : w.heap.size ≤ gb171)); clear HO_7; clear HB; have HO_7 := n0_; have HB := n1_; have BK171 := n2_; have GW171 := n3_; have GE171 := n4_; clear n0_ n1_ n2_ n3_ n4_; clear hb hbox hg; have hcz13_0 : w12.cell? ⟨gb171, 0, none⟩ = some (.int .i64 0) := (blk_cell BK171.out 0).trans rfl; have hcz13_1 : w12.cell? ⟨gb171, 1, none⟩ = some (.int .i64 0) := (blk_cell BK171.out 1).trans rfl; have hcz13_2 : w12.cell? ⟨gb171, 2, none⟩ = some (.int .i64 0) := (blk_cell BK171.out 2).trans rfl; have hcz13_3 : w12.cell? ⟨gb171, 3, none⟩ = some (.slice none 0 0) := (blk_cell BK171.out 3).trans rfl; have hfz13_0 := blk_frozen BK171.out 0; have hfz13_1 := blk_frozen BK171.out 1; have hfz13_2 := blk_frozen BK171.out 2; have hfz13_3 := blk_frozen BK171.out 3))
                (try simp only [Act.put, List.setIfInBounds_toArray, List.set_cons_zero, List.set_cons_succ])
                go_cut [10] (fun v10 wc => ∃ (kq : Nat) (x10_10 : Int), v10 = .int .i64 x10_10 ∧ Aside0 (ontimelaw44_releases.j1 kq l1 l2 x7_1 x17_1 x10_10 l0 (l0.length : Int) x17_1 ((rd_T49 l0 x17_1).f0) ((rd_T49 l0 x17_1).f1) ((rd_T49 l0 x17_1).f2) ((rd_T49 l0 x17_1).f3) = some r) ∧ Aside0 (kq ≤ k1) ∧ Aside0 (Kd.S (Kd.slice 3 (Kd.int .i64)) 38 wc w.heap.size (fun _ => True) v168 x7_1) ∧ Aside0 (wc.heap[gb171]? = some (.cells #[.int .i64 ((rd_T49 l0 x17_1).f0), .int .i64 ((rd_T49 l0 x17_1).f1), .int .i64 ((rd_T49 l0 x17_1).f2), (.slice A170_3 ((rd_T49 l0 x17_1).f3).length c170_3)] 49 (0, 0))) ∧ Aside0 (Below w.heap.size w wc))
                case first =>
                  have H := HC11.out
                  clear HC11
                  by_cases c14 : x17_1 < (l1.length : Int)
                  · rw [if_pos c14] at H
                    have c14b0 : decide (x17_1 < (l1.length : Int)) = true := decide_eq_true c14
                    clear c14
                    (first | rw [c14b0] | (simp only [i64_w, i32_w]; rw [c14b0]) | skip)
                    have H' := Aside0.mk H
                    clear H
                    have p172 : 0 ≤ (x17_1 : Int) := of_decide_eq_true (by first | (with_reducible assumption) | assumption)
                    have q172 : x17_1 < (l1.length : Int) := of_decide_eq_true (by first | (with_reducible assumption) | assumption)
                    obtain ⟨ad172, e172, hx172_0⟩ := Kd.at_int HR1.out x17_1 p172 q172
                    cases e172
                    have hn172_0 : ad172.block ≠ gb171 := Nat.ne_of_lt (Nat.lt_of_lt_of_le (by have := World.block_lt_of_cell? _ _ hx172_0; first | rwa [add_block] at this | exact this) GW171.out)
                    have hn172_1 : ad172.block ≠ gb171 := Nat.ne_of_lt (Nat.lt_of_lt_of_le (by have := World.block_lt_of_cell? _ _ hx172_0; first | rwa [add_block] at this | exact this) GW171.out)
                    have hn172_2 : ad172.block ≠ gb171 := Nat.ne_of_lt (Nat.lt_of_lt_of_le (by have := World.block_lt_of_cell? _ _ hx172_0; first | rwa [add_block] at this | exact this) GW171.out)
                    have hn172_3 : ad172.block ≠ gb171 := Nat.ne_of_lt (Nat.lt_of_lt_of_le (by have := World.block_lt_of_cell? _ _ hx172_0; first | rwa [add_block] at this | exact this) GW171.out)
                    replace hx172_0 := (HB.out.cell (World.block_lt_of_cell? w _ hx172_0)).trans hx172_0
                    replace hx172_0 := (cell_far (p := ⟨gb171, 0, none⟩) (by first | (rw [add_block]; exact hn172_0) | (show (Addr.add _ _).block ≠ _; rw [add_block]; exact hn172_0) | exact hn172_0) (.int .i64 ((rd_T49 l0 x17_1).f0))).trans hx172_0
                    replace hx172_0 := (cell_far (p := ⟨gb171, 1, none⟩) (by first | (rw [add_block]; exact hn172_1) | (show (Addr.add _ _).block ≠ _; rw [add_block]; exact hn172_1) | exact hn172_1) (.int .i64 ((rd_T49 l0 x17_1).f1))).trans hx172_0
                    replace hx172_0 := (cell_far (p := ⟨gb171, 2, none⟩) (by first | (rw [add_block]; exact hn172_2) | (show (Addr.add _ _).block ≠ _; rw [add_block]; exact hn172_2) | exact hn172_2) (.int .i64 ((rd_T49 l0 x17_1).f2))).trans hx172_0
                    replace hx172_0 := (cell_far (p := ⟨gb171, 3, none⟩) (by first | (rw [add_block]; exact hn172_3) | (show (Addr.add _ _).block ≠ _; rw [add_block]; exact hn172_3) | exact hn172_3) (.slice A170_3 ((rd_T49 l0 x17_1).f3).length c170_3)).trans hx172_0
                    clear hn172_0
                    clear hn172_1
                    clear hn172_2
                    clear hn172_3
                    replace p172 := eq_true p172
                    replace q172 := eq_true q172
                    go_wp2
                    go_meet
                    case rel => exact ⟨_, (wrap64 (rd l1 x17_1)), (by first | rfl | (simp; done) | (simp [*]; done)), H', ⟨by have := HK1.out; first | omega | exact Nat.le_refl _⟩, ⟨by (with_reducible repeat (first | apply Kd.S_alloc | apply Kd.S_drewN | apply Kd.S_drew)); exact Kd.S_mono (Kd.S_far (p := ⟨gb171, 3, none⟩) (Kd.S_far (p := ⟨gb171, 2, none⟩) (Kd.S_far (p := ⟨gb171, 1, none⟩) (Kd.S_far (p := ⟨gb171, 0, none⟩) (Kd.S_types HO_7.out BK171.out (by decide)) (fun _ hk => hk.2) (.int .i64 ((rd_T49 l0 x17_1).f0))) (fun _ hk => hk.2) (.int .i64 ((rd_T49 l0 x17_1).f1))) (fun _ hk => hk.2) (.int .i64 ((rd_T49 l0 x17_1).f2))) (fun _ hk => hk.2) (.slice A170_3 ((rd_T49 l0 x17_1).f3).length c170_3)) (fun _ hk => trivial)⟩, ⟨by (with_reducible repeat (first | refine blk_drewN ?_ _ | refine blk_drew ?_ | refine blk_alloc ?_ _)); refine blk_put (cs := #[.int .i64 ((rd_T49 l0 x17_1).f0), .int .i64 ((rd_T49 l0 x17_1).f1), .int .i64 ((rd_T49 l0 x17_1).f2), .slice none 0 0]) ?_ 3 _ rfl; (with_reducible repeat (first | refine blk_drewN ?_ _ | refine blk_drew ?_ | refine blk_alloc ?_ _)); refine blk_put (cs := #[.int .i64 ((rd_T49 l0 x17_1).f0), .int .i64 ((rd_T49 l0 x17_1).f1), .int .i64 0, .slice none 0 0]) ?_ 2 _ rfl; (with_reducible repeat (first | refine blk_drewN ?_ _ | refine blk_drew ?_ | refine blk_alloc ?_ _)); refine blk_put (cs := #[.int .i64 ((rd_T49 l0 x17_1).f0), .int .i64 0, .int .i64 0, .slice none 0 0]) ?_ 1 _ rfl; (with_reducible repeat (first | refine blk_drewN ?_ _ | refine blk_drew ?_ | refine blk_alloc ?_ _)); refine blk_put (cs := #[.int .i64 0, .int .i64 0, .int .i64 0, .slice none 0 0]) ?_ 0 _ rfl; (with_reducible repeat (first | refine blk_drewN ?_ _ | refine blk_drew ?_ | refine blk_alloc ?_ _)); exact BK171.out⟩, ⟨by repeat (first | (with_reducible first | exact HB.out | apply below_alloc | apply pw_below_drewN | apply below_drew1 | refine below_set ?_ GE171.out) | exact HB.out)⟩⟩
                  · rw [if_neg c14] at H
                    have c14b0 : decide (x17_1 < (l1.length : Int)) = false := decide_eq_false c14
                    clear c14
                    (first | rw [c14b0] | (simp only [i64_w, i32_w]; rw [c14b0]) | skip)
                    have H' := Aside0.mk H
                    clear H
                    go_wp2
                    go_meet
                    case rel => exact ⟨_, (0), (by first | rfl | (simp; done) | (simp [*]; done)), H', ⟨by have := HK1.out; first | omega | exact Nat.le_refl _⟩, ⟨by (with_reducible repeat (first | apply Kd.S_alloc | apply Kd.S_drewN | apply Kd.S_drew)); exact Kd.S_mono (Kd.S_far (p := ⟨gb171, 3, none⟩) (Kd.S_far (p := ⟨gb171, 2, none⟩) (Kd.S_far (p := ⟨gb171, 1, none⟩) (Kd.S_far (p := ⟨gb171, 0, none⟩) (Kd.S_types HO_7.out BK171.out (by decide)) (fun _ hk => hk.2) (.int .i64 ((rd_T49 l0 x17_1).f0))) (fun _ hk => hk.2) (.int .i64 ((rd_T49 l0 x17_1).f1))) (fun _ hk => hk.2) (.int .i64 ((rd_T49 l0 x17_1).f2))) (fun _ hk => hk.2) (.slice A170_3 ((rd_T49 l0 x17_1).f3).length c170_3)) (fun _ hk => trivial)⟩, ⟨by (with_reducible repeat (first | refine blk_drewN ?_ _ | refine blk_drew ?_ | refine blk_alloc ?_ _)); refine blk_put (cs := #[.int .i64 ((rd_T49 l0 x17_1).f0), .int .i64 ((rd_T49 l0 x17_1).f1), .int .i64 ((rd_T49 l0 x17_1).f2), .slice none 0 0]) ?_ 3 _ rfl; (with_reducible repeat (first | refine blk_drewN ?_ _ | refine blk_drew ?_ | refine blk_alloc ?_ _)); refine blk_put (cs := #[.int .i64 ((rd_T49 l0 x17_1).f0), .int .i64 ((rd_T49 l0 x17_1).f1), .int .i64 0, .slice none 0 0]) ?_ 2 _ rfl; (with_reducible repeat (first | refine blk_drewN ?_ _ | refine blk_drew ?_ | refine blk_alloc ?_ _)); refine blk_put (cs := #[.int .i64 ((rd_T49 l0 x17_1).f0), .int .i64 0, .int .i64 0, .slice none 0 0]) ?_ 1 _ rfl; (with_reducible repeat (first | refine blk_drewN ?_ _ | refine blk_drew ?_ | refine blk_alloc ?_ _)); refine blk_put (cs := #[.int .i64 0, .int .i64 0, .int .i64 0, .slice none 0 0]) ?_ 0 _ rfl; (with_reducible repeat (first | refine blk_drewN ?_ _ | refine blk_drew ?_ | refine blk_alloc ?_ _)); exact BK171.out⟩, ⟨by repeat (first | (with_reducible first | exact HB.out | apply below_alloc | apply pw_below_drewN | apply below_drew1 | refine below_set ?_ GE171.out) | exact HB.out)⟩⟩
                case rest =>
                  clear HC11
                  try clear c1
                  try clear p1
                  try clear q1
                  try clear hx1
                  try clear c2
                  try clear p2
                  try clear c4
                  try clear c4b0
                  try clear c4b1
                  try clear c5
                  try clear c5b0
                  try clear c5b1
                  try clear p6
                  try clear c8
                  try clear c8b0
                  try clear c9
                  try clear c9b0
                  try clear c10
                  try clear c10b0
                  try clear c14
                  try clear c14b0
                  try clear hcz13_0
                  try clear hcz13_1
                  try clear hcz13_2
                  try clear hcz13_3
                  try clear hfz13_0
                  try clear hfz13_1
                  try clear hfz13_2
                  try clear hfz13_3
                  try clear hx170_0
                  try clear hx170_1
                  try clear hx170_2
                  try clear hx170_3
                  try clear hx172_0
                  try clear p170
                  try clear p172
                  try clear p2
                  try clear q170
                  try clear q172
                  obtain ⟨kq, x10_10, rfl, HA, HJ10, HO_7, BK171, HB⟩ := hcut
                  cases kq with
                  | zero => exact absurd HA.out (by simp [ontimelaw44_releases.j1])
                  | succ kj10 =>
                    have H := HA.out
                    clear HA
                    simp only [ontimelaw44_releases.j1] at H
                    have H' := Aside0.mk H
                    clear H
                    go_wp2
                    go_loopg [10, 11] kj10 (fun kq v10 v11 w' => ∃ (x7_3 : List (List Int)) (x10_3 : Int) (x11_3 : Int), v10 = .int .i64 x10_3 ∧ v11 = .int .i64 x11_3 ∧ Aside0 (ontimelaw44_releases.l1 kq l1 l2 x7_3 x17_1 x10_3 x11_3 l0 (l0.length : Int) x17_1 ((rd_T49 l0 x17_1).f0) ((rd_T49 l0 x17_1).f1) ((rd_T49 l0 x17_1).f2) ((rd_T49 l0 x17_1).f3) = some r) ∧ Aside0 (kq ≤ kj10) ∧ Aside0 (Kd.S (Kd.slice 3 (Kd.int .i64)) 38 w' w.heap.size (fun _ => True) v168 x7_3) ∧ Aside0 (w'.heap[gb171]? = some (.cells #[.int .i64 ((rd_T49 l0 x17_1).f0), .int .i64 ((rd_T49 l0 x17_1).f1), .int .i64 ((rd_T49 l0 x17_1).f2), (.slice A170_3 ((rd_T49 l0 x17_1).f3).length c170_3)] 49 (0, 0))) ∧ Aside0 (Below w.heap.size w w'))
                    case atStart => exact ⟨(x7_1), (x10_10), (0), (by first | rfl | (simp; done) | (simp [*]; done)), (by first | rfl | (simp; done) | (simp [*]; done)), H', ⟨Nat.le_refl _⟩, ⟨by (with_reducible repeat (first | apply Kd.S_alloc | apply Kd.S_drewN | apply Kd.S_drew)); exact HO_7.out⟩, ⟨by (with_reducible repeat (first | refine blk_drewN ?_ _ | refine blk_drew ?_ | refine blk_alloc ?_ _)); exact BK171.out⟩, ⟨by repeat (first | (with_reducible first | exact HB.out | apply below_alloc | apply pw_below_drewN | apply below_drew1 | refine below_set ?_ GE171.out) | exact HB.out)⟩⟩
                    case round =>
                      clear H'
                      try clear c1
                      try clear p1
                      try clear q1
                      try clear hx1
                      try clear c2
                      try clear p2
                      try clear c4
                      try clear c4b0
                      try clear c4b1
                      try clear c5
                      try clear c5b0
                      try clear c5b1
                      try clear p6
                      try clear c8
                      try clear c8b0
                      try clear c9
                      try clear c9b0
                      try clear c10
                      try clear c10b0
                      try clear c14
                      try clear c14b0
                      try clear hcz13_0
                      try clear hcz13_1
                      try clear hcz13_2
                      try clear hcz13_3
                      try clear hfz13_0
                      try clear hfz13_1
                      try clear hfz13_2
                      try clear hfz13_3
                      try clear hx170_0
                      try clear hx170_1
                      try clear hx170_2
                      try clear hx170_3
                      try clear hx172_0
                      try clear p1
                      try clear p170
                      try clear p172
                      try clear p2
                      try clear p6
                      try clear q1
                      try clear q170
                      try clear q172
                      obtain ⟨x7_3, x10_3, x11_3, rfl, rfl, HA, HK3, HO_7, BK171, HB⟩ := hrel
                      cases gk with
                      | zero => exact absurd HA.out (by simp [ontimelaw44_releases.l1])
                      | succ k3 =>
                        have H := HA.out
                        clear HA
                        simp only [ontimelaw44_releases.l1] at H
                        have HC15 := Aside0.mk H
                        clear H
                        go_upto_region 9 with (fail)
                        go_cut [36] (fun v36 wc => ∃ (kq : Nat) (x36_14 : Bool), v36 = .bool x36_14 ∧ Aside0 (ontimelaw44_releases.j3 kq l1 l2 x7_3 x17_1 x10_3 x11_3 l0 (l0.length : Int) x17_1 x36_14 ((rd_T49 l0 x17_1).f0) ((rd_T49 l0 x17_1).f1) ((rd_T49 l0 x17_1).f2) ((rd_T49 l0 x17_1).f3) = some r) ∧ Aside0 (kq ≤ k3) ∧ Aside0 (Kd.S (Kd.slice 3 (Kd.int .i64)) 38 wc w.heap.size (fun _ => True) v168 x7_3) ∧ Aside0 (wc.heap[gb171]? = some (.cells #[.int .i64 ((rd_T49 l0 x17_1).f0), .int .i64 ((rd_T49 l0 x17_1).f1), .int .i64 ((rd_T49 l0 x17_1).f2), (.slice A170_3 ((rd_T49 l0 x17_1).f3).length c170_3)] 49 (0, 0))) ∧ Aside0 (Below w.heap.size w wc))
                        case first =>
                          have H := HC15.out
                          clear HC15
                          by_cases c16 : x11_3 < 12
                          · rw [if_pos c16] at H
                            have c16b0 : decide (x11_3 < 12) = true := decide_eq_true c16
                            clear c16
                            (first | rw [c16b0] | (simp only [i64_w, i32_w]; rw [c16b0]) | skip)
                            have H' := Aside0.mk H
                            clear H
                            go_wp2
                            go_meet
                            case rel => exact ⟨_, (decide (x10_3 < 400)), (by first | rfl | (simp; done) | (simp [*]; done)), H', ⟨by have := HK1.out; have := HJ10.out; have := HK3.out; first | omega | exact Nat.le_refl _⟩, ⟨by (with_reducible repeat (first | apply Kd.S_alloc | apply Kd.S_drewN | apply Kd.S_drew)); exact HO_7.out⟩, ⟨by (with_reducible repeat (first | refine blk_drewN ?_ _ | refine blk_drew ?_ | refine blk_alloc ?_ _)); exact BK171.out⟩, ⟨by repeat (first | (with_reducible first | exact HB.out | apply below_alloc | apply pw_below_drewN | apply below_drew1 | refine below_set ?_ GE171.out) | exact HB.out)⟩⟩
                          · rw [if_neg c16] at H
                            have c16b0 : decide (x11_3 < 12) = false := decide_eq_false c16
                            clear c16
                            (first | rw [c16b0] | (simp only [i64_w, i32_w]; rw [c16b0]) | skip)
                            have H' := Aside0.mk H
                            clear H
                            go_wp2
                            go_meet
                            case rel => exact ⟨_, (false), (by first | rfl | (simp; done) | (simp [*]; done)), H', ⟨by have := HK1.out; have := HJ10.out; have := HK3.out; first | omega | exact Nat.le_refl _⟩, ⟨by (with_reducible repeat (first | apply Kd.S_alloc | apply Kd.S_drewN | apply Kd.S_drew)); exact HO_7.out⟩, ⟨by (with_reducible repeat (first | refine blk_drewN ?_ _ | refine blk_drew ?_ | refine blk_alloc ?_ _)); exact BK171.out⟩, ⟨by repeat (first | (with_reducible first | exact HB.out | apply below_alloc | apply pw_below_drewN | apply below_drew1 | refine below_set ?_ GE171.out) | exact HB.out)⟩⟩
                        case rest =>
                          clear HC15
                          try clear c1
                          try clear p1
                          try clear q1
                          try clear hx1
                          try clear c2
                          try clear p2
                          try clear c4
                          try clear c4b0
                          try clear c4b1
                          try clear c5
                          try clear c5b0
                          try clear c5b1
                          try clear p6
                          try clear c8
                          try clear c8b0
                          try clear c9
                          try clear c9b0
                          try clear c10
                          try clear c10b0
                          try clear c14
                          try clear c14b0
                          try clear c16
                          try clear c16b0
                          try clear hcz13_0
                          try clear hcz13_1
                          try clear hcz13_2
                          try clear hcz13_3
                          try clear hfz13_0
                          try clear hfz13_1
                          try clear hfz13_2
                          try clear hfz13_3
                          try clear hx170_0
                          try clear hx170_1
                          try clear hx170_2
                          try clear hx170_3
                          try clear hx172_0
                          try clear p1
                          try clear p170
                          try clear p172
                          try clear p2
                          try clear p6
                          try clear q1
                          try clear q170
                          try clear q172
                          obtain ⟨kq, x36_14, rfl, HA, HJ14, HO_7, BK171, HB⟩ := hcut
                          cases kq with
                          | zero => exact absurd HA.out (by simp [ontimelaw44_releases.j3])
                          | succ kj14 =>
                            have H := HA.out
                            clear HA
                            simp only [ontimelaw44_releases.j3] at H
                            by_cases c17 : x36_14 = true
                            · subst c17
                              have H1 : (if 0 ≤ x17_1 then (if x17_1 < (x7_3.length : Int) then (if (rd_L5 x7_3 x17_1).length < 17592186044416 then ((some (x7_3.set (x17_1 : Int).toNat ((rd_L5 x7_3 x17_1) ++ [x10_3]) : List (List Int))).bind fun y177 => (if (l2.length : Int) > 0 then (if (l2.length : Int) = 0 then (none) else (if 0 ≤ (Int.tmod (wrap64 ((wrap64 (x17_1 * 7)) + x11_3)) (l2.length : Int)) then (if (Int.tmod (wrap64 ((wrap64 (x17_1 * 7)) + x11_3)) (l2.length : Int)) < (l2.length : Int) then (ontimelaw44_releases.l1 kj14 l1 l2 y177 x17_1 (wrap64 ((wrap64 (x10_3 + ((rd_T49 l0 x17_1).f1))) + (Int.tmod (wrap64 (rd l2 (Int.tmod (wrap64 ((wrap64 (x17_1 * 7)) + x11_3)) (l2.length : Int)))) 8))) (wrap64 (x11_3 + 1)) l0 (l0.length : Int) x17_1 ((rd_T49 l0 x17_1).f0) ((rd_T49 l0 x17_1).f1) ((rd_T49 l0 x17_1).f2) ((rd_T49 l0 x17_1).f3)) else (none)) else (none))) else (ontimelaw44_releases.l1 kj14 l1 l2 y177 x17_1 (wrap64 (x10_3 + ((rd_T49 l0 x17_1).f1))) (wrap64 (x11_3 + 1)) l0 (l0.length : Int) x17_1 ((rd_T49 l0 x17_1).f0) ((rd_T49 l0 x17_1).f1) ((rd_T49 l0 x17_1).f2) ((rd_T49 l0 x17_1).f3)))) else (none)) else (none)) else (none)) = some r := by rw [if_pos rfl] at H; exact H
                              clear H
                              have H := H1
                              clear H1
                              by_cases c18 : 0 ≤ x17_1
                              · rw [if_pos c18] at H
                                have c18b0 : decide (0 ≤ x17_1) = true := decide_eq_true c18
                                clear c18
                                by_cases c19 : x17_1 < (x7_3.length : Int)
                                · rw [if_pos c19] at H
                                  have c19b0 : decide (x17_1 < (x7_3.length : Int)) = true := decide_eq_true c19
                                  clear c19
                                  by_cases c20 : (rd_L5 x7_3 x17_1).length < 17592186044416
                                  · rw [if_pos c20] at H
                                    have LMc20 := Aside0.mk c20
                                    clear c20
                                    obtain ⟨y174, hy174⟩ : ∃ y_ : List Int, y_ = ((rd_L5 x7_3 x17_1) ++ [x10_3]) := ⟨_, rfl⟩
                                    replace H : ((some (x7_3.set (x17_1 : Int).toNat y174 : List (List Int))).bind fun y177 => (if (l2.length : Int) > 0 then (if (l2.length : Int) = 0 then (none) else (if 0 ≤ (Int.tmod (wrap64 ((wrap64 (x17_1 * 7)) + x11_3)) (l2.length : Int)) then (if (Int.tmod (wrap64 ((wrap64 (x17_1 * 7)) + x11_3)) (l2.length : Int)) < (l2.length : Int) then (ontimelaw44_releases.l1 kj14 l1 l2 y177 x17_1 (wrap64 ((wrap64 (x10_3 + ((rd_T49 l0 x17_1).f1))) + (Int.tmod (wrap64 (rd l2 (Int.tmod (wrap64 ((wrap64 (x17_1 * 7)) + x11_3)) (l2.length : Int)))) 8))) (wrap64 (x11_3 + 1)) l0 (l0.length : Int) x17_1 ((rd_T49 l0 x17_1).f0) ((rd_T49 l0 x17_1).f1) ((rd_T49 l0 x17_1).f2) ((rd_T49 l0 x17_1).f3)) else (none)) else (none))) else (ontimelaw44_releases.l1 kj14 l1 l2 y177 x17_1 (wrap64 (x10_3 + ((rd_T49 l0 x17_1).f1))) (wrap64 (x11_3 + 1)) l0 (l0.length : Int) x17_1 ((rd_T49 l0 x17_1).f0) ((rd_T49 l0 x17_1).f1) ((rd_T49 l0 x17_1).f2) ((rd_T49 l0 x17_1).f3)))) = some r := by first | (rw [hy174]; with_reducible exact H) | (have H2_ := (Option.bind_some _ _).symm.trans H; rw [hy174]; with_reducible exact H2_) | (have H2_ := (Option.bind_some _ _).symm.trans H; with_reducible exact H2_) | with_reducible exact H | (rw [hy174]; exact H) | exact H
                                    have Ny174 := Aside0.mk hy174
                                    clear hy174
                                    obtain ⟨y177, hy177⟩ : ∃ y_ : List (List Int), y_ = (x7_3.set (x17_1 : Int).toNat y174) := ⟨_, rfl⟩
                                    replace H : (if (l2.length : Int) > 0 then (if (l2.length : Int) = 0 then (none) else (if 0 ≤ (Int.tmod (wrap64 ((wrap64 (x17_1 * 7)) + x11_3)) (l2.length : Int)) then (if (Int.tmod (wrap64 ((wrap64 (x17_1 * 7)) + x11_3)) (l2.length : Int)) < (l2.length : Int) then (ontimelaw44_releases.l1 kj14 l1 l2 y177 x17_1 (wrap64 ((wrap64 (x10_3 + ((rd_T49 l0 x17_1).f1))) + (Int.tmod (wrap64 (rd l2 (Int.tmod (wrap64 ((wrap64 (x17_1 * 7)) + x11_3)) (l2.length : Int)))) 8))) (wrap64 (x11_3 + 1)) l0 (l0.length : Int) x17_1 ((rd_T49 l0 x17_1).f0) ((rd_T49 l0 x17_1).f1) ((rd_T49 l0 x17_1).f2) ((rd_T49 l0 x17_1).f3)) else (none)) else (none))) else (ontimelaw44_releases.l1 kj14 l1 l2 y177 x17_1 (wrap64 (x10_3 + ((rd_T49 l0 x17_1).f1))) (wrap64 (x11_3 + 1)) l0 (l0.length : Int) x17_1 ((rd_T49 l0 x17_1).f0) ((rd_T49 l0 x17_1).f1) ((rd_T49 l0 x17_1).f2) ((rd_T49 l0 x17_1).f3))) = some r := by first | (rw [hy177]; with_reducible exact H) | (have H2_ := (Option.bind_some _ _).symm.trans H; rw [hy177]; with_reducible exact H2_) | (have H2_ := (Option.bind_some _ _).symm.trans H; with_reducible exact H2_) | with_reducible exact H | (rw [hy177]; exact H) | exact H
                                    have Ny177 := Aside0.mk hy177
                                    clear hy177
                                    by_cases c22 : (l2.length : Int) > 0
                                    · rw [if_pos c22] at H
                                      have c22b0 : decide (0 < (l2.length : Int)) = true := decide_eq_true c22
                                      have c22b1 : decide (0 < l2.length) = true := decide_eq_true (by omega)
                                      clear c22
                                      by_cases c23 : (l2.length : Int) = 0
                                      · rw [if_pos c23] at H
                                        exact absurd H (by simp)
                                      · rw [if_neg c23] at H
                                        have c23b0 : ((l2.length : Int) == 0) = false := beq_eq_false_iff_ne.mpr c23
                                        have c23b1 : ((l2.length : Int) != 0) = true := bne_iff_ne.mpr c23
                                        have c23b2 : ¬ (l2 = []) := fun h_ => c23 (by rw [h_]; rfl)
                                        obtain ⟨ji24, hji24⟩ : ∃ j_ : Int, (Int.tmod (wrap64 ((wrap64 (x17_1 * 7)) + x11_3)) (l2.length : Int)) = j_ := ⟨_, rfl⟩
                                        replace H : (if 0 ≤ (ji24) then (if (ji24) < (l2.length : Int) then (ontimelaw44_releases.l1 kj14 l1 l2 y177 x17_1 (wrap64 ((wrap64 (x10_3 + ((rd_T49 l0 x17_1).f1))) + (Int.tmod (wrap64 (rd l2 (ji24))) 8))) (wrap64 (x11_3 + 1)) l0 (l0.length : Int) x17_1 ((rd_T49 l0 x17_1).f0) ((rd_T49 l0 x17_1).f1) ((rd_T49 l0 x17_1).f2) ((rd_T49 l0 x17_1).f3)) else (none)) else (none)) = some r := by first | (rw [hji24] at H; exact H) | (simp only [hji24] at H ⊢; exact H)
                                        by_cases c25 : 0 ≤ (ji24)
                                        · rw [if_pos c25] at H
                                          have c25b0 : decide (0 ≤ (ji24)) = true := decide_eq_true c25
                                          clear c25
                                          by_cases c26 : (ji24) < (l2.length : Int)
                                          · rw [if_pos c26] at H
                                            have c26b0 : decide ((ji24) < (l2.length : Int)) = true := decide_eq_true c26
                                            clear c26
                                            have H' := Aside0.mk H
                                            clear H
                                            obtain ⟨Ao27, co27, eo27⟩ := Kd.S_slice HO_7.out
                                            subst eo27
                                            have p173 : 0 ≤ (x17_1 : Int) := of_decide_eq_true (by first | (with_reducible assumption) | assumption)
                                            have q173 : x17_1 < (x7_3.length : Int) := of_decide_eq_true (by first | (with_reducible assumption) | assumption)
                                            obtain ⟨ad173, A173_0, c173_0, e173, hx173_0, hl173_0, hi173_0⟩ := at_L5 (Kd.S_reads' HO_7.out).2.2 x17_1 p173 q173
                                            cases e173
                                            obtain ⟨ce173, hce173, hMe173, hcc173⟩ := Kd.S_get HO_7.out [] x17_1 p173 (by first | exact q173 | exact of_decide_eq_true (by first | (with_reducible assumption) | assumption) | (have e_ := (Kd.S_reads' HO_7.out).1; omega))
                                            obtain ⟨ve173_0, rfl, ge173_0⟩ := hMe173
                                            have hv173_0 := hcc173 0 _ rfl
                                            rw [Nat.add_zero, show ((Kd.slice 3 (Kd.int .i64))).sz = 1 from rfl, Nat.mul_one] at hv173_0
                                            replace hv173_0 := Option.some.inj (hv173_0.symm.trans hx173_0)
                                            rw [hv173_0] at ge173_0
                                            have HL173_0 := Aside0.mk (show Kd.R (Kd.int .i64) 3 _ _ _ _ (rd_L5 x7_3 x17_1) from ge173_0)
                                            clear hv173_0 ge173_0
                                            have HX173_0 := Aside0.mk hx173_0
                                            clear hcc173 hce173
                                            have HR173_0 := Aside0.mk hi173_0
                                            have HC173_0 := Aside0.mk hl173_0
                                            clear hi173_0 hl173_0
                                            replace p173 := eq_true p173
                                            replace q173 := eq_true q173
                                            obtain ⟨go28, co28, eo28, gb28, gl28, cl28, HG28⟩ := Kd.S_form HO_7.out (by have h_ : (x17_1 : Int) < ((x7_3.length : Int) : Int) := of_decide_eq_true (by first | (with_reducible assumption) | assumption); have h2_ : 0 ≤ (x17_1 : Int) := (of_decide_eq_true (by first | (with_reducible assumption) | assumption)); omega)
                                            (first | cases eo28 | (injection eo28 with ea_ en_ ec_; (first | subst ea_ | (injection ea_ with ea_; subst ea_)); subst ec_; clear en_))
                                            have GB28 := Aside0.mk gb28
                                            have GG28 := Aside0.mk HG28
                                            clear gb28 gl28 HG28
                                            (first | simp only [add_plain] at hx173_0 | skip)
                                            obtain ⟨oki28, ce28, hcl28, hM28, hcc28, _, _, hH28⟩ := Kd.S_elem HO_7.out [] (x17_1 : Int) (of_decide_eq_true (by first | (with_reducible assumption) | assumption)) (by have h_ : (x17_1 : Int) < ((x7_3.length : Int) : Int) := of_decide_eq_true (by first | (with_reducible assumption) | assumption); first | exact h_ | (have e_ := (Kd.S_reads' HO_7.out).1; omega) | simpa using h_)
                                            obtain ⟨ve28_0, rfl, ge28_0⟩ := hM28
                                            have hv28 := hcc28 0 _ rfl
                                            have hX28 := HX173_0.out
                                            (try simp only [add_plain] at hX28)
                                            (try simp only [Nat.add_zero] at hv28)
                                            (try rw [show ((Kd.slice 3 (Kd.int .i64))).sz = 1 from rfl, Nat.mul_one] at hv28)
                                            replace hv28 := Option.some.inj (hv28.symm.trans hX28)
                                            subst hv28
                                            clear hX28 hcc28 hcl28
                                            have UU28 := Aside0.mk (show Kd.R (Kd.int .i64) 3 _ w.heap.size oki28 (.slice A173_0 (rd_L5 x7_3 x17_1).length c173_0) (rd_L5 x7_3 x17_1) from ge28_0)
                                            have HH28 := Aside0.mk hH28
                                            have HN28 := Aside0.mk (Kd.S_reads' HO_7.out).1
                                            clear hH28 ge28_0
                                            go_wp2_with (first | ((with_reducible refine gate_builtin (b := .append) (xs := #[.tmp 44, .tmp 46]) rfl ?_); at_builtin; refine Kd.R_append (Kd.int .i64) (w0 := w) w.heap.size rfl (.tmp 44) (.tmp 46) 38 3 (.int .i64 0) 8 rfl Try.underlying38 info3 rfl (by decide) (by omega) (.slice A173_0 (rd_L5 x7_3 x17_1).length c173_0) (rd_L5 x7_3 x17_1) x10_3 [.int .i64 x10_3] (fun k_ => oki28 k_ ∨ ((fun _ => True)) k_ ∧ wc.heap.size ≤ k_) (fun _ => False) rfl rfl ?aP (fun _ hk => hk.elim) ?aF ?aO ?aB ?aS ?aL ?_; (case aP => exact rfl); (case aB => exact (by repeat (first | (with_reducible first | exact HB.out | apply below_alloc | apply pw_below_drewN | apply below_drew1 | refine below_set ?_ GE171.out) | exact HB.out))); (case aF => exact (fun k_ hk => .inr ⟨trivial, hk⟩)); (case aO => exact (by (with_reducible repeat (first | apply Kd.R_alloc | apply Kd.R_drewN | apply Kd.R_drew)); exact Kd.R_mono UU28.out (fun _ hk => .inl hk))); (case aS => exact (below_size (by repeat (first | (with_reducible first | exact HB.out | apply below_alloc | apply pw_below_drewN | apply below_drew1 | refine below_set ?_ GE171.out) | exact HB.out)))); (case aL => have := LMc20.out; omega); intro v175 w29 ho hb hg hat; rw [← Ny174.out] at ho; have n0_ := Aside0.mk (blk_grown (g := gb171) (o := .cells #[.int .i64 ((rd_T49 l0 x17_1).f0), .int .i64 ((rd_T49 l0 x17_1).f1), .int .i64 ((rd_T49 l0 x17_1).f2), .slice A170_3 ((rd_T49 l0 x17_1).f3).length c170_3] 49 (0, 0)) (by (with_reducible repeat (first | refine blk_drewN ?_ _ | refine blk_drew ?_ | refine blk_alloc ?_ _)); exact BK171.out) hg (Kd.R_ne HL173_0.out BK171.out (by decide))); have n1_ := Aside0.mk (hb); have n2_ := Aside0.mk (Kd.H_grown (Kd.H_widen (by repeat (first | exact HH28.out | refine Kd.H_alloc ?_ _ | refine Kd.H_drewN ?_ _ | refine Kd.H_drew ?_))) hg (fun k_ e_ => .inl (UU28.out.1 k_ e_))); have n3_ := Aside0.mk (ho); clear BK171; clear HB; clear HH28; clear HO_7; clear UU28; clear HL173_0; have BK171 := n0_; have HB := n1_; have HH28 := n2_; have HO176 := n3_; clear n0_ n1_ n2_ n3_; clear ho hb hg hat; have p21 : 0 ≤ (x17_1 : Int) := of_decide_eq_true (by first | (with_reducible assumption) | assumption); have q21 : (x17_1 : Int) < ((x7_3.length : Int) : Int) := of_decide_eq_true (by first | (with_reducible assumption) | assumption); replace p21 := eq_true p21; replace q21 := eq_true q21; obtain ⟨Ao32, co32, eo32⟩ := Kd.R_slice HO176.out; subst eo32; obtain ⟨_, _, hraw30, _, _, hcc30, _⟩ := Kd.H_raw HH28.out (of_decide_eq_true (by first | (with_reducible assumption) | assumption)) (by have h_ : (x17_1 : Int) < ((x7_3.length : Int) : Int) := of_decide_eq_true (by first | (with_reducible assumption) | assumption); first | exact h_ | (have e_ := (HN28.out); omega) | simpa using h_); obtain ⟨_, hfr30⟩ := Kd.H_at HH28.out (of_decide_eq_true (by first | (with_reducible assumption) | assumption)) (by have h_ : (x17_1 : Int) < ((x7_3.length : Int) : Int) := of_decide_eq_true (by first | (with_reducible assumption) | assumption); first | exact h_ | (have e_ := (HN28.out); omega) | simpa using h_); have hx30_0 := hcc30 0 _ rfl; have hf30_0 := hfr30 0; (try simp only [Nat.add_zero] at hx30_0 hf30_0); (try rw [show ((Kd.slice 3 (Kd.int .i64))).sz = 1 from rfl, Nat.mul_one] at hx30_0); (try rw [show ((Kd.slice 3 (Kd.int .i64))).sz = 1 from rfl, Nat.mul_one] at hf30_0); have HP30 := Kd.S_seg0 HH28.out (of_decide_eq_true (by first | (with_reducible assumption) | assumption)) (by have h_ : (x17_1 : Int) < ((x7_3.length : Int) : Int) := of_decide_eq_true (by first | (with_reducible assumption) | assumption); first | exact h_ | (have e_ := (HN28.out); omega) | simpa using h_) (seg := [.slice Ao32 y174.length co32]) (j := 0) (show 1 ≤ 1 from by decide) (x' := y174) (Kd.M_row HO176.out) (fun _ hk => hk); (try simp only [show ((Kd.slice 3 (Kd.int .i64))).sz = 1 from rfl, Nat.mul_one, Nat.add_zero] at HP30); clear hcc30 hfr30) | ((with_reducible refine gate_store (t := 38) (p := 48) rfl ?_); refine store_event (t := 38) (p := 48) (v := ?vo_w31) (w1 := (w29.setCell ⟨go28, (x17_1 : Int).toNat, none⟩ (.slice Ao32 y174.length co32))) ?hg ?ho ?hn ?hr ?_; (case ho => rfl); (case hg => rfl); (case hn => rfl); (case hr => first | (go_simp; done) | (go_simp; rfl)); intro w31 hw; have hg : w29.grownBy w31 (some go28) := (by rw [hw]; exact HP30.2); have hp_ : Kd.S (Kd.slice 3 (Kd.int .i64)) 38 w31 w.heap.size (fun _ => True) (.slice (some ⟨go28, 0, none⟩) x7_3.length co27) y177 := (by rw [hw, Ny177.out]; exact HP30.1); clear HP30; have n0_ := Aside0.mk (blk_grown (g := gb171) (o := .cells #[.int .i64 ((rd_T49 l0 x17_1).f0), .int .i64 ((rd_T49 l0 x17_1).f1), .int .i64 ((rd_T49 l0 x17_1).f2), .slice A170_3 ((rd_T49 l0 x17_1).f3).length c170_3] 49 (0, 0)) (by (with_reducible repeat (first | refine blk_drewN ?_ _ | refine blk_drew ?_ | refine blk_alloc ?_ _)); exact BK171.out) hg (Kd.R_ne hraw30 BK171.out (by decide))); have n1_ := Aside0.mk ((by rw [hw]; exact below_set HB.out GB28.out : Below w.heap.size w w31)); have n2_ := Aside0.mk (hp_); clear BK171; clear HB; clear HO176; clear HH28; have BK171 := n0_; have HB := n1_; have HO_7 := n2_; clear n0_ n1_ n2_; clear hg hw hp_ hraw30; have hcz33_0 : w31.cell? ⟨gb171, 0, none⟩ = some (.int .i64 ((rd_T49 l0 x17_1).f0)) := (blk_cell BK171.out 0).trans rfl; have hcz33_1 : w31.cell? ⟨gb171, 1, none⟩ = some (.int .i64 ((rd_T49 l0 x17_1).f1)) := (blk_cell BK171.out 1).trans rfl; have hcz33_2 : w31.cell? ⟨gb171, 2, none⟩ = some (.int .i64 ((rd_T49 l0 x17_1).f2)) := (blk_cell BK171.out 2).trans rfl; have hcz33_3 : w31.cell? ⟨gb171, 3, none⟩ = some (.slice A170_3 ((rd_T49 l0 x17_1).f3).length c170_3) := (blk_cell BK171.out 3).trans rfl; have hfz33_0 := blk_frozen BK171.out 0; have hfz33_1 := blk_frozen BK171.out 1; have hfz33_2 := blk_frozen BK171.out 2; have hfz33_3 := blk_frozen BK171.out 3; have p178 : 0 ≤ ((ji24) : Int) := of_decide_eq_true (by first | (with_reducible assumption) | assumption); have q178 : (ji24) < (l2.length : Int) := of_decide_eq_true (by first | (with_reducible assumption) | assumption); obtain ⟨ad178, e178, hx178_0⟩ := Kd.at_int HR2.out (ji24) p178 q178; cases e178; replace hx178_0 := (HB.out.cell (World.block_lt_of_cell? w _ hx178_0)).trans hx178_0; replace p178 := eq_true p178; replace q178 := eq_true q178))
                                            go_roundg kj14
                                            case measure => have := HK1.out; have := HJ10.out; have := HK3.out; have := HJ14.out; omega
                                            case rel => exact ⟨(y177), (wrap64 ((wrap64 (x10_3 + ((rd_T49 l0 x17_1).f1))) + (Int.tmod (wrap64 (rd l2 (ji24))) 8))), (wrap64 (x11_3 + 1)), (by first | rfl | (simp; done) | (simp only [← hji24] <;> (first | rfl | simp)) | (simp [*]; done)), (by first | rfl | (simp; done) | (simp [*]; done)), H', ⟨by have := HK1.out; have := HJ10.out; have := HK3.out; have := HJ14.out; omega⟩, ⟨by (with_reducible repeat (first | apply Kd.S_alloc | apply Kd.S_drewN | apply Kd.S_drew)); exact HO_7.out⟩, ⟨by (with_reducible repeat (first | refine blk_drewN ?_ _ | refine blk_drew ?_ | refine blk_alloc ?_ _)); exact BK171.out⟩, ⟨by repeat (first | (with_reducible first | exact HB.out | apply below_alloc | apply pw_below_drewN | apply below_drew1 | refine below_set ?_ GE171.out) | exact HB.out)⟩⟩
                                          · rw [if_neg c26] at H
                                            exact absurd H (by simp)
                                        · rw [if_neg c25] at H
                                          exact absurd H (by simp)
                                    · rw [if_neg c22] at H
                                      have c22b0 : decide (0 < (l2.length : Int)) = false := decide_eq_false c22
                                      have c22b1 : decide (0 < l2.length) = false := decide_eq_false (by omega)
                                      clear c22
                                      have H' := Aside0.mk H
                                      clear H
                                      obtain ⟨Ao34, co34, eo34⟩ := Kd.S_slice HO_7.out
                                      subst eo34
                                      have p173 : 0 ≤ (x17_1 : Int) := of_decide_eq_true (by first | (with_reducible assumption) | assumption)
                                      have q173 : x17_1 < (x7_3.length : Int) := of_decide_eq_true (by first | (with_reducible assumption) | assumption)
                                      obtain ⟨ad173, A173_0, c173_0, e173, hx173_0, hl173_0, hi173_0⟩ := at_L5 (Kd.S_reads' HO_7.out).2.2 x17_1 p173 q173
                                      cases e173
                                      obtain ⟨ce173, hce173, hMe173, hcc173⟩ := Kd.S_get HO_7.out [] x17_1 p173 (by first | exact q173 | exact of_decide_eq_true (by first | (with_reducible assumption) | assumption) | (have e_ := (Kd.S_reads' HO_7.out).1; omega))
                                      obtain ⟨ve173_0, rfl, ge173_0⟩ := hMe173
                                      have hv173_0 := hcc173 0 _ rfl
                                      rw [Nat.add_zero, show ((Kd.slice 3 (Kd.int .i64))).sz = 1 from rfl, Nat.mul_one] at hv173_0
                                      replace hv173_0 := Option.some.inj (hv173_0.symm.trans hx173_0)
                                      rw [hv173_0] at ge173_0
                                      have HL173_0 := Aside0.mk (show Kd.R (Kd.int .i64) 3 _ _ _ _ (rd_L5 x7_3 x17_1) from ge173_0)
                                      clear hv173_0 ge173_0
                                      have HX173_0 := Aside0.mk hx173_0
                                      clear hcc173 hce173
                                      have HR173_0 := Aside0.mk hi173_0
                                      have HC173_0 := Aside0.mk hl173_0
                                      clear hi173_0 hl173_0
                                      replace p173 := eq_true p173
                                      replace q173 := eq_true q173
                                      obtain ⟨go35, co35, eo35, gb35, gl35, cl35, HG35⟩ := Kd.S_form HO_7.out (by have h_ : (x17_1 : Int) < ((x7_3.length : Int) : Int) := of_decide_eq_true (by first | (with_reducible assumption) | assumption); have h2_ : 0 ≤ (x17_1 : Int) := (of_decide_eq_true (by first | (with_reducible assumption) | assumption)); omega)
                                      (first | cases eo35 | (injection eo35 with ea_ en_ ec_; (first | subst ea_ | (injection ea_ with ea_; subst ea_)); subst ec_; clear en_))
                                      have GB35 := Aside0.mk gb35
                                      have GG35 := Aside0.mk HG35
                                      clear gb35 gl35 HG35
                                      (first | simp only [add_plain] at hx173_0 | skip)
                                      obtain ⟨oki35, ce35, hcl35, hM35, hcc35, _, _, hH35⟩ := Kd.S_elem HO_7.out [] (x17_1 : Int) (of_decide_eq_true (by first | (with_reducible assumption) | assumption)) (by have h_ : (x17_1 : Int) < ((x7_3.length : Int) : Int) := of_decide_eq_true (by first | (with_reducible assumption) | assumption); first | exact h_ | (have e_ := (Kd.S_reads' HO_7.out).1; omega) | simpa using h_)
                                      obtain ⟨ve35_0, rfl, ge35_0⟩ := hM35
                                      have hv35 := hcc35 0 _ rfl
                                      have hX35 := HX173_0.out
                                      (try simp only [add_plain] at hX35)
                                      (try simp only [Nat.add_zero] at hv35)
                                      (try rw [show ((Kd.slice 3 (Kd.int .i64))).sz = 1 from rfl, Nat.mul_one] at hv35)
                                      replace hv35 := Option.some.inj (hv35.symm.trans hX35)
                                      subst hv35
                                      clear hX35 hcc35 hcl35
                                      have UU35 := Aside0.mk (show Kd.R (Kd.int .i64) 3 _ w.heap.size oki35 (.slice A173_0 (rd_L5 x7_3 x17_1).length c173_0) (rd_L5 x7_3 x17_1) from ge35_0)
                                      have HH35 := Aside0.mk hH35
                                      have HN35 := Aside0.mk (Kd.S_reads' HO_7.out).1
                                      clear hH35 ge35_0
                                      go_wp2_with (first | ((with_reducible refine gate_builtin (b := .append) (xs := #[.tmp 44, .tmp 46]) rfl ?_); at_builtin; refine Kd.R_append (Kd.int .i64) (w0 := w) w.heap.size rfl (.tmp 44) (.tmp 46) 38 3 (.int .i64 0) 8 rfl Try.underlying38 info3 rfl (by decide) (by omega) (.slice A173_0 (rd_L5 x7_3 x17_1).length c173_0) (rd_L5 x7_3 x17_1) x10_3 [.int .i64 x10_3] (fun k_ => oki35 k_ ∨ ((fun _ => True)) k_ ∧ wc.heap.size ≤ k_) (fun _ => False) rfl rfl ?aP (fun _ hk => hk.elim) ?aF ?aO ?aB ?aS ?aL ?_; (case aP => exact rfl); (case aB => exact (by repeat (first | (with_reducible first | exact HB.out | apply below_alloc | apply pw_below_drewN | apply below_drew1 | refine below_set ?_ GE171.out) | exact HB.out))); (case aF => exact (fun k_ hk => .inr ⟨trivial, hk⟩)); (case aO => exact (by (with_reducible repeat (first | apply Kd.R_alloc | apply Kd.R_drewN | apply Kd.R_drew)); exact Kd.R_mono UU35.out (fun _ hk => .inl hk))); (case aS => exact (below_size (by repeat (first | (with_reducible first | exact HB.out | apply below_alloc | apply pw_below_drewN | apply below_drew1 | refine below_set ?_ GE171.out) | exact HB.out)))); (case aL => have := LMc20.out; omega); intro v175 w36 ho hb hg hat; rw [← Ny174.out] at ho; have n0_ := Aside0.mk (blk_grown (g := gb171) (o := .cells #[.int .i64 ((rd_T49 l0 x17_1).f0), .int .i64 ((rd_T49 l0 x17_1).f1), .int .i64 ((rd_T49 l0 x17_1).f2), .slice A170_3 ((rd_T49 l0 x17_1).f3).length c170_3] 49 (0, 0)) (by (with_reducible repeat (first | refine blk_drewN ?_ _ | refine blk_drew ?_ | refine blk_alloc ?_ _)); exact BK171.out) hg (Kd.R_ne HL173_0.out BK171.out (by decide))); have n1_ := Aside0.mk (hb); have n2_ := Aside0.mk (Kd.H_grown (Kd.H_widen (by repeat (first | exact HH35.out | refine Kd.H_alloc ?_ _ | refine Kd.H_drewN ?_ _ | refine Kd.H_drew ?_))) hg (fun k_ e_ => .inl (UU35.out.1 k_ e_))); have n3_ := Aside0.mk (ho); clear BK171; clear HB; clear HH35; clear HO_7; clear UU35; clear HL173_0; have BK171 := n0_; have HB := n1_; have HH35 := n2_; have HO176 := n3_; clear n0_ n1_ n2_ n3_; clear ho hb hg hat; have p21 : 0 ≤ (x17_1 : Int) := of_decide_eq_true (by first | (with_reducible assumption) | assumption); have q21 : (x17_1 : Int) < ((x7_3.length : Int) : Int) := of_decide_eq_true (by first | (with_reducible assumption) | assumption); replace p21 := eq_true p21; replace q21 := eq_true q21; obtain ⟨Ao39, co39, eo39⟩ := Kd.R_slice HO176.out; subst eo39; obtain ⟨_, _, hraw37, _, _, hcc37, _⟩ := Kd.H_raw HH35.out (of_decide_eq_true (by first | (with_reducible assumption) | assumption)) (by have h_ : (x17_1 : Int) < ((x7_3.length : Int) : Int) := of_decide_eq_true (by first | (with_reducible assumption) | assumption); first | exact h_ | (have e_ := (HN35.out); omega) | simpa using h_); obtain ⟨_, hfr37⟩ := Kd.H_at HH35.out (of_decide_eq_true (by first | (with_reducible assumption) | assumption)) (by have h_ : (x17_1 : Int) < ((x7_3.length : Int) : Int) := of_decide_eq_true (by first | (with_reducible assumption) | assumption); first | exact h_ | (have e_ := (HN35.out); omega) | simpa using h_); have hx37_0 := hcc37 0 _ rfl; have hf37_0 := hfr37 0; (try simp only [Nat.add_zero] at hx37_0 hf37_0); (try rw [show ((Kd.slice 3 (Kd.int .i64))).sz = 1 from rfl, Nat.mul_one] at hx37_0); (try rw [show ((Kd.slice 3 (Kd.int .i64))).sz = 1 from rfl, Nat.mul_one] at hf37_0); have HP37 := Kd.S_seg0 HH35.out (of_decide_eq_true (by first | (with_reducible assumption) | assumption)) (by have h_ : (x17_1 : Int) < ((x7_3.length : Int) : Int) := of_decide_eq_true (by first | (with_reducible assumption) | assumption); first | exact h_ | (have e_ := (HN35.out); omega) | simpa using h_) (seg := [.slice Ao39 y174.length co39]) (j := 0) (show 1 ≤ 1 from by decide) (x' := y174) (Kd.M_row HO176.out) (fun _ hk => hk); (try simp only [show ((Kd.slice 3 (Kd.int .i64))).sz = 1 from rfl, Nat.mul_one, Nat.add_zero] at HP37); clear hcc37 hfr37) | ((with_reducible refine gate_store (t := 38) (p := 48) rfl ?_); refine store_event (t := 38) (p := 48) (v := ?vo_w38) (w1 := (w36.setCell ⟨go35, (x17_1 : Int).toNat, none⟩ (.slice Ao39 y174.length co39))) ?hg ?ho ?hn ?hr ?_; (case ho => rfl); (case hg => rfl); (case hn => rfl); (case hr => first | (go_simp; done) | (go_simp; rfl)); intro w38 hw; have hg : w36.grownBy w38 (some go35) := (by rw [hw]; exact HP37.2); have hp_ : Kd.S (Kd.slice 3 (Kd.int .i64)) 38 w38 w.heap.size (fun _ => True) (.slice (some ⟨go35, 0, none⟩) x7_3.length co34) y177 := (by rw [hw, Ny177.out]; exact HP37.1); clear HP37; have n0_ := Aside0.mk (blk_grown (g := gb171) (o := .cells #[.int .i64 ((rd_T49 l0 x17_1).f0), .int .i64 ((rd_T49 l0 x17_1).f1), .int .i64 ((rd_T49 l0 x17_1).f2), .slice A170_3 ((rd_T49 l0 x17_1).f3).length c170_3] 49 (0, 0)) (by (with_reducible repeat (first | refine blk_drewN ?_ _ | refine blk_drew ?_ | refine blk_alloc ?_ _)); exact BK171.out) hg (Kd.R_ne hraw37 BK171.out (by decide))); have n1_ := Aside0.mk ((by rw [hw]; exact below_set HB.out GB35.out : Below w.heap.size w w38)); have n2_ := Aside0.mk (hp_); clear BK171; clear HB; clear HO176; clear HH35; have BK171 := n0_; have HB := n1_; have HO_7 := n2_; clear n0_ n1_ n2_; clear hg hw hp_ hraw37; have hcz40_0 : w38.cell? ⟨gb171, 0, none⟩ = some (.int .i64 ((rd_T49 l0 x17_1).f0)) := (blk_cell BK171.out 0).trans rfl; have hcz40_1 : w38.cell? ⟨gb171, 1, none⟩ = some (.int .i64 ((rd_T49 l0 x17_1).f1)) := (blk_cell BK171.out 1).trans rfl; have hcz40_2 : w38.cell? ⟨gb171, 2, none⟩ = some (.int .i64 ((rd_T49 l0 x17_1).f2)) := (blk_cell BK171.out 2).trans rfl; have hcz40_3 : w38.cell? ⟨gb171, 3, none⟩ = some (.slice A170_3 ((rd_T49 l0 x17_1).f3).length c170_3) := (blk_cell BK171.out 3).trans rfl; have hfz40_0 := blk_frozen BK171.out 0; have hfz40_1 := blk_frozen BK171.out 1; have hfz40_2 := blk_frozen BK171.out 2; have hfz40_3 := blk_frozen BK171.out 3))
                                      go_roundg kj14
                                      case measure => have := HK1.out; have := HJ10.out; have := HK3.out; have := HJ14.out; omega
                                      case rel => exact ⟨(y177), (wrap64 (x10_3 + ((rd_T49 l0 x17_1).f1))), (wrap64 (x11_3 + 1)), (by first | rfl | (simp; done) | (simp [*]; done)), (by first | rfl | (simp; done) | (simp [*]; done)), H', ⟨by have := HK1.out; have := HJ10.out; have := HK3.out; have := HJ14.out; omega⟩, ⟨by (with_reducible repeat (first | apply Kd.S_alloc | apply Kd.S_drewN | apply Kd.S_drew)); exact HO_7.out⟩, ⟨by (with_reducible repeat (first | refine blk_drewN ?_ _ | refine blk_drew ?_ | refine blk_alloc ?_ _)); exact BK171.out⟩, ⟨by repeat (first | (with_reducible first | exact HB.out | apply below_alloc | apply pw_below_drewN | apply below_drew1 | refine below_set ?_ GE171.out) | exact HB.out)⟩⟩
                                  · rw [if_neg c20] at H
                                    exact absurd H (by simp)
                                · rw [if_neg c19] at H
                                  exact absurd H (by simp)
                              · rw [if_neg c18] at H
                                exact absurd H (by simp)
                            · replace c17 := Bool.eq_false_iff.mpr c17
                              subst c17
                              have H1 : (ontimelaw44_releases.l0 kj14 l1 l2 x7_3 l0 (l0.length : Int) (wrap64 (x17_1 + 1))) = some r := by rw [if_neg (show ¬ (false = true) by decide)] at H; exact H
                              clear H
                              have H := H1
                              clear H1
                              have H' := Aside0.mk H
                              clear H
                              go_wp2
                              go_roundg kj14
                              case measure => have := HK1.out; have := HJ10.out; have := HK3.out; have := HJ14.out; omega
                              case rel => exact ⟨(x7_3), (wrap64 (x17_1 + 1)), (by first | rfl | (simp; done) | (simp [*]; done)), H', ⟨by have := HK1.out; have := HJ10.out; have := HK3.out; have := HJ14.out; omega⟩, ⟨by (with_reducible repeat (first | apply Kd.S_alloc | apply Kd.S_drewN | apply Kd.S_drew)); exact HO_7.out⟩, ⟨by repeat (first | (with_reducible first | exact HB.out | apply below_alloc | apply pw_below_drewN | apply below_drew1 | refine below_set ?_ GE171.out) | exact HB.out)⟩⟩
              · rw [if_neg c10] at H
                exact absurd H (by simp)
            · rw [if_neg c9] at H
              exact absurd H (by simp)
          · rw [if_neg c8] at H
            have c8b0 : decide (x17_1 < (l0.length : Int)) = false := decide_eq_false c8
            clear c8
            obtain rfl := Option.some.inj H
            go_wp2
            go_ret
            exact ⟨_, by first | rfl | (simp [errW_none, errW_some] <;> rfl) | (simp [*, errW_none, errW_some] <;> rfl), by (with_reducible repeat (first | apply Kd.S_alloc | apply Kd.S_drewN | apply Kd.S_drew)); exact HO_7.out, by repeat (first | (with_reducible first | exact HB.out | apply below_alloc | apply pw_below_drewN | apply below_drew1) | exact HB.out)⟩
    · rw [if_neg c5] at H
      exact absurd H (by simp)
  · rw [if_neg c4] at H
    exact absurd H (by simp)

end Go.Proofs.Ytcmifojplgmgkaa.P
