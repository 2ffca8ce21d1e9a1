-- written by wip/drive.py (a driver of this session's own over the kit's print.py)
import Derived.Test.YtcmifojplgmgkaaP0
import Derived.Test.YtcmifojplgmgkaaP2
import Derived.Test.YtcmifojplgmgkaaP3
namespace Go.Proofs.Ytcmifojplgmgkaa.P
open Go.RowKit Go.Proofs.YtcmifojplgmgkaaW.PrintWords Go.Proofs.YtcmifojplgmgkaaW.PrintLast Go.Proofs.YtcmifojplgmgkaaW.PrintMore
attribute [local go_sem] max2_int min2_int max_two min_two max_three min_three max_four min_four   -- for this text's walks alone
set_option linter.unusedVariables false
set_option linter.unusedSimpArgs false

/-! ### ceiling_admit: function 48 -/
mutual
def ceiling_admit.j0 : Nat → List (S49) → List (List Int) → Int → Bool → Option (Int)
  | 0, _, _, _, _ => none
  | k + 1, x0, x1, x2, x20 => if x20 = true then (some 1) else ((ceiling_between.f x2 0 100000).bind fun t155 => (if t155 = true then (ceiling_admit.l0 k x0 x1 (x1.length : Int) 0) else (some 2)))
def ceiling_admit.l0 : Nat → List (S49) → List (List Int) → Int → Int → Option (Int)
  | 0, _, _, _, _ => none
  | k + 1, x0, x24, x25, x26 => if x26 < x25 then (if 0 ≤ x26 then (if x26 < (x24.length : Int) then (ceiling_admit.l1 k x0 x26 (rd_L5 x24 x26) x24 x25 x26 (rd_L5 x24 x26) ((rd_L5 x24 x26).length : Int) 0) else (none)) else (none)) else (some 0)
def ceiling_admit.l1 : Nat → List (S49) → Int → List Int → List (List Int) → Int → Int → List Int → Int → Int → Option (Int)
  | 0, _, _, _, _, _, _, _, _, _ => none
  | k + 1, x0, x7, x8, x24, x25, x26, x31, x32, x33 => if x33 < x32 then (if 0 ≤ x33 then (if x33 < (x31.length : Int) then (if (rd x31 x33) < 0 then (some 2) else (if x33 > 0 then (if 0 ≤ (wrap64 (x33 - 1)) then (if (wrap64 (x33 - 1)) < (x8.length : Int) then (if 0 ≤ x7 then (if x7 < (x0.length : Int) then (if (wrap64 ((rd x31 x33) - (rd x8 (wrap64 (x33 - 1))))) < ((rd_T49 x0 x7).f1) then (some 2) else (ceiling_admit.l1 k x0 x7 x8 x24 x25 x26 x31 x32 (wrap64 (x33 + 1)))) else (none)) else (none)) else (none)) else (none)) else (ceiling_admit.l1 k x0 x7 x8 x24 x25 x26 x31 x32 (wrap64 (x33 + 1))))) else (none)) else (none)) else (ceiling_admit.l0 k x0 x24 x25 (wrap64 (x26 + 1)))
end
def ceiling_admit.f (k : Nat) (l0 : List (S49)) (l1 : List (List Int)) (a2 : Int) : Option (Int) := (ceiling_Valid.f k l0).bind fun t154 => (if t154 = true then (ceiling_admit.j0 k l0 l1 a2 ((l1.length : Int) != (l0.length : Int))) else (ceiling_admit.j0 k l0 l1 a2 true))
theorem ceiling_admit.mono_l : ∀ k, (∀ y0 y1 y2 y3, LeO (ceiling_admit.j0 k y0 y1 y2 y3) (ceiling_admit.j0 (k + 1) y0 y1 y2 y3)) ∧ (∀ y0 y1 y2 y3, LeO (ceiling_admit.l0 k y0 y1 y2 y3) (ceiling_admit.l0 (k + 1) y0 y1 y2 y3)) ∧ (∀ y0 y1 y2 y3 y4 y5 y6 y7 y8, LeO (ceiling_admit.l1 k y0 y1 y2 y3 y4 y5 y6 y7 y8) (ceiling_admit.l1 (k + 1) y0 y1 y2 y3 y4 y5 y6 y7 y8))
  | 0 => ⟨fun _ _ _ _ r h => by simp [ceiling_admit.j0] at h, fun _ _ _ _ r h => by simp [ceiling_admit.l0] at h, fun _ _ _ _ _ _ _ _ _ r h => by simp [ceiling_admit.l1] at h⟩
  | k + 1 => by
    obtain ⟨ih0, ih1, ih2⟩ := ceiling_admit.mono_l k
    refine ⟨?_, ?_, ?_⟩
    · intro y0 y1 y2 y3
      unfold ceiling_admit.j0
      repeat' first
      | (with_reducible exact ih0 _ _ _ _)
      | (with_reducible exact ih1 _ _ _ _)
      | (with_reducible exact ih2 _ _ _ _ _ _ _ _ _)
      | (with_reducible exact ceiling_Valid.mono _ _)
      | (with_reducible exact LeO.refl _)
      | (with_reducible exact LeO.none _)
      | (with_reducible refine LeO.ite ?_ ?_)
      | (with_reducible refine LeO.bind ?_ (fun _ => ?_))
      | exact ih0 _ _ _ _
      | exact ih1 _ _ _ _
      | exact ih2 _ _ _ _ _ _ _ _ _
      | exact ceiling_Valid.mono _ _
      | exact LeO.none _
      | refine LeO.ite ?_ ?_
      | refine LeO.bind ?_ (fun _ => ?_)
    · intro y0 y1 y2 y3
      unfold ceiling_admit.l0
      repeat' first
      | (with_reducible exact ih0 _ _ _ _)
      | (with_reducible exact ih1 _ _ _ _)
      | (with_reducible exact ih2 _ _ _ _ _ _ _ _ _)
      | (with_reducible exact ceiling_Valid.mono _ _)
      | (with_reducible exact LeO.refl _)
      | (with_reducible exact LeO.none _)
      | (with_reducible refine LeO.ite ?_ ?_)
      | (with_reducible refine LeO.bind ?_ (fun _ => ?_))
      | exact ih0 _ _ _ _
      | exact ih1 _ _ _ _
      | exact ih2 _ _ _ _ _ _ _ _ _
      | exact ceiling_Valid.mono _ _
      | exact LeO.none _
      | refine LeO.ite ?_ ?_
      | refine LeO.bind ?_ (fun _ => ?_)
    · intro y0 y1 y2 y3 y4 y5 y6 y7 y8
      unfold ceiling_admit.l1
      repeat' first
      | (with_reducible exact ih0 _ _ _ _)
      | (with_reducible exact ih1 _ _ _ _)
      | (with_reducible exact ih2 _ _ _ _ _ _ _ _ _)
      | (with_reducible exact ceiling_Valid.mono _ _)
      | (with_reducible exact LeO.refl _)
      | (with_reducible exact LeO.none _)
      | (with_reducible refine LeO.ite ?_ ?_)
      | (with_reducible refine LeO.bind ?_ (fun _ => ?_))
      | exact ih0 _ _ _ _
      | exact ih1 _ _ _ _
      | exact ih2 _ _ _ _ _ _ _ _ _
      | exact ceiling_Valid.mono _ _
      | exact LeO.none _
      | refine LeO.ite ?_ ?_
      | refine LeO.bind ?_ (fun _ => ?_)
theorem ceiling_admit.mono : ∀ a0 a1 a2 k, LeO (ceiling_admit.f k a0 a1 a2) (ceiling_admit.f (k + 1) a0 a1 a2) := by
  intro a0 a1 a2 k
  obtain ⟨ih0, ih1, ih2⟩ := ceiling_admit.mono_l k
  unfold ceiling_admit.f
  repeat' first
      | (with_reducible exact ih0 _ _ _ _)
      | (with_reducible exact ih1 _ _ _ _)
      | (with_reducible exact ih2 _ _ _ _ _ _ _ _ _)
      | (with_reducible exact ceiling_Valid.mono _ _)
      | (with_reducible exact LeO.refl _)
      | (with_reducible exact LeO.none _)
      | (with_reducible refine LeO.ite ?_ ?_)
      | (with_reducible refine LeO.bind ?_ (fun _ => ?_))
      | exact ih0 _ _ _ _
      | exact ih1 _ _ _ _
      | exact ih2 _ _ _ _ _ _ _ _ _
      | exact ceiling_Valid.mono _ _
      | exact LeO.none _
      | refine LeO.ite ?_ ?_
      | refine LeO.bind ?_ (fun _ => ?_)
set_option maxHeartbeats 8000000 in
set_option maxRecDepth 100000 in
theorem ceiling_admit.calls (k : Nat) (A0 : Option Addr) (c0 : Nat) (l0 : List (S49)) (A1 : Option Addr) (c1 : Nat) (l1 : List (List Int)) (a2 : Int) (r : Int) (w : World) (hr0 : Kd.C k49 w A0 l0.length l0) (hc0 : l0.length ≤ c0) (hr1 : Kd.C (Kd.slice 3 (Kd.int .i64)) w A1 l1.length l1) (hc1 : l1.length ≤ c1) (h : ceiling_admit.f k l0 l1 a2 = some r) :
    Calls Try.prog 48 #[.slice A0 l0.length c0, .slice A1 l1.length c1, .int .i64 a2] w fun e w' => e = .returned (.int .i64 r) ∧ Below w.heap.size w w' := by
  have HR0 := Aside0.mk hr0
  have HC0 := Aside0.mk hc0
  clear hr0 hc0
  have HR1 := Aside0.mk hr1
  have HC1 := Aside0.mk hc1
  clear hr1 hc1
  have HB := Aside0.mk (Below.refl w.heap.size w)
  have H : ((ceiling_Valid.f k l0).bind fun t154 => (if t154 = true then (ceiling_admit.j0 k l0 l1 a2 ((l1.length : Int) != (l0.length : Int))) else (ceiling_admit.j0 k l0 l1 a2 true))) = some r := h
  clear h
  have HC4 := Aside0.mk H
  clear H
  go_enter Try.func48, Try.ntmps48
  go_upto_region 1 with (fail)
  repeat (go_quiet (fail); go_upto_region 1 with (fail))
  go_cut [20] (fun v20 wc => ∃ (kq : Nat) (x20_3 : Bool), v20 = .bool x20_3 ∧ Aside0 (ceiling_admit.j0 kq l0 l1 a2 x20_3 = some r) ∧ Aside0 (kq ≤ k) ∧ Aside0 (Below w.heap.size w wc))
  case first =>
    have H := HC4.out
    clear HC4
    replace H := Option.bind_eq_some_iff.mp H
    obtain ⟨t154, A50, H⟩ := H
    replace H : (if t154 = true then (ceiling_admit.j0 k l0 l1 a2 ((l1.length : Int) != (l0.length : Int))) else (ceiling_admit.j0 k l0 l1 a2 true)) = some r := H
    have A5 := Aside0.mk A50
    clear A50
    by_cases c6 : t154 = true
    · subst c6
      have H1 : (ceiling_admit.j0 k l0 l1 a2 ((l1.length : Int) != (l0.length : Int))) = some r := by rw [if_pos rfl] at H; exact H
      clear H
      have H := H1
      clear H1
      have H' := Aside0.mk H
      clear H
      go_wp2_with (first | (go_at_call 20; (with_reducible refine (ceiling_Valid.calls k _ _ l0 true _ ?side1 ?side2 A5.out).mono ?_); (case side1 => repeat (first | exact (Kd.C_below HR0.out HB.out) | (with_reducible refine Kd.C_alloc ?_ _) | (with_reducible refine Kd.C_drewN ?_ _) | (with_reducible refine Kd.C_drew ?_))); (case side2 => exact HC0.out); rintro e w7 ⟨rfl, hb⟩; have n0_ := Aside0.mk (below_step (by repeat (first | (with_reducible first | exact HB.out | apply below_alloc | apply pw_below_drewN | apply below_drew1) | exact HB.out)) hb); clear HB; have HB := n0_; clear n0_; (try clear hb); (try clear hb2); (try clear hk); (try clear hi)))
      repeat (go_quiet (first | (go_at_call 20; (with_reducible refine (ceiling_Valid.calls k _ _ l0 true _ ?side1 ?side2 A5.out).mono ?_); (case side1 => repeat (first | exact (Kd.C_below HR0.out HB.out) | (with_reducible refine Kd.C_alloc ?_ _) | (with_reducible refine Kd.C_drewN ?_ _) | (with_reducible refine Kd.C_drew ?_))); (case side2 => exact HC0.out); rintro e w7 ⟨rfl, hb⟩; have n0_ := Aside0.mk (below_step (by repeat (first | (with_reducible first | exact HB.out | apply below_alloc | apply pw_below_drewN | apply below_drew1) | exact HB.out)) hb); clear HB; have HB := n0_; clear n0_; (try clear hb); (try clear hb2); (try clear hk); (try clear hi))); try go_wp2_with (first | (go_at_call 20; (with_reducible refine (ceiling_Valid.calls k _ _ l0 true _ ?side1 ?side2 A5.out).mono ?_); (case side1 => repeat (first | exact (Kd.C_below HR0.out HB.out) | (with_reducible refine Kd.C_alloc ?_ _) | (with_reducible refine Kd.C_drewN ?_ _) | (with_reducible refine Kd.C_drew ?_))); (case side2 => exact HC0.out); rintro e w7 ⟨rfl, hb⟩; have n0_ := Aside0.mk (below_step (by repeat (first | (with_reducible first | exact HB.out | apply below_alloc | apply pw_below_drewN | apply below_drew1) | exact HB.out)) hb); clear HB; have HB := n0_; clear n0_; (try clear hb); (try clear hb2); (try clear hk); (try clear hi))))
      go_meet
      case rel => exact ⟨_, (((l1.length : Int) != (l0.length : Int))), (by first | rfl | (simp; done) | (simp [*]; done)), H', ⟨by first | omega | exact Nat.le_refl _⟩, ⟨by repeat (first | (with_reducible first | exact HB.out | apply below_alloc | apply pw_below_drewN | apply below_drew1) | exact HB.out)⟩⟩
    · replace c6 := Bool.eq_false_iff.mpr c6
      subst c6
      have H1 : (ceiling_admit.j0 k l0 l1 a2 true) = some r := by rw [if_neg (show ¬ (false = true) by decide)] at H; exact H
      clear H
      have H := H1
      clear H1
      have H' := Aside0.mk H
      clear H
      go_wp2_with (first | (go_at_call 20; (with_reducible refine (ceiling_Valid.calls k _ _ l0 false _ ?side1 ?side2 A5.out).mono ?_); (case side1 => repeat (first | exact (Kd.C_below HR0.out HB.out) | (with_reducible refine Kd.C_alloc ?_ _) | (with_reducible refine Kd.C_drewN ?_ _) | (with_reducible refine Kd.C_drew ?_))); (case side2 => exact HC0.out); rintro e w8 ⟨rfl, hb⟩; have n0_ := Aside0.mk (below_step (by repeat (first | (with_reducible first | exact HB.out | apply below_alloc | apply pw_below_drewN | apply below_drew1) | exact HB.out)) hb); clear HB; have HB := n0_; clear n0_; (try clear hb); (try clear hb2); (try clear hk); (try clear hi)))
      repeat (go_quiet (first | (go_at_call 20; (with_reducible refine (ceiling_Valid.calls k _ _ l0 false _ ?side1 ?side2 A5.out).mono ?_); (case side1 => repeat (first | exact (Kd.C_below HR0.out HB.out) | (with_reducible refine Kd.C_alloc ?_ _) | (with_reducible refine Kd.C_drewN ?_ _) | (with_reducible refine Kd.C_drew ?_))); (case side2 => exact HC0.out); rintro e w8 ⟨rfl, hb⟩; have n0_ := Aside0.mk (below_step (by repeat (first | (with_reducible first | exact HB.out | apply below_alloc | apply pw_below_drewN | apply below_drew1) | exact HB.out)) hb); clear HB; have HB := n0_; clear n0_; (try clear hb); (try clear hb2); (try clear hk); (try clear hi))); try go_wp2_with (first | (go_at_call 20; (with_reducible refine (ceiling_Valid.calls k _ _ l0 false _ ?side1 ?side2 A5.out).mono ?_); (case side1 => repeat (first | exact (Kd.C_below HR0.out HB.out) | (with_reducible refine Kd.C_alloc ?_ _) | (with_reducible refine Kd.C_drewN ?_ _) | (with_reducible refine Kd.C_drew ?_))); (case side2 => exact HC0.out); rintro e w8 ⟨rfl, hb⟩; have n0_ := Aside0.mk (below_step (by repeat (first | (with_reducible first | exact HB.out | apply below_alloc | apply pw_below_drewN | apply below_drew1) | exact HB.out)) hb); clear HB; have HB := n0_; clear n0_; (try clear hb); (try clear hb2); (try clear hk); (try clear hi))))
      go_meet
      case rel => exact ⟨_, (true), (by first | rfl | (simp; done) | (simp [*]; done)), H', ⟨by first | omega | exact Nat.le_refl _⟩, ⟨by repeat (first | (with_reducible first | exact HB.out | apply below_alloc | apply pw_below_drewN | apply below_drew1) | exact HB.out)⟩⟩
  case rest =>
    clear HC4
    try clear c1
    try clear p2
    try clear c4
    try clear c6
    obtain ⟨kq, x20_3, rfl, HA, HJ3, HB⟩ := hcut
    cases kq with
    | zero => exact absurd HA.out (by simp [ceiling_admit.j0])
    | succ kj3 =>
      have H := HA.out
      clear HA
      simp only [ceiling_admit.j0] at H
      by_cases c9 : x20_3 = true
      · subst c9
        have H1 : (some 1) = some r := by rw [if_pos rfl] at H; exact H
        clear H
        have H := H1
        clear H1
        obtain rfl := Option.some.inj H
        go_wp2
        repeat (go_quiet (fail); try go_wp2)
        go_ret
        exact ⟨by first | rfl | (simp [errW_none, errW_some] <;> rfl) | (simp [*, errW_none, errW_some] <;> rfl), by repeat (first | (with_reducible first | exact HB.out | apply below_alloc | apply pw_below_drewN | apply below_drew1) | exact HB.out)⟩
      · replace c9 := Bool.eq_false_iff.mpr c9
        subst c9
        have H1 : ((ceiling_between.f a2 0 100000).bind fun t155 => (if t155 = true then (ceiling_admit.l0 kj3 l0 l1 (l1.length : Int) 0) else (some 2))) = some r := by rw [if_neg (show ¬ (false = true) by decide)] at H; exact H
        clear H
        have H := H1
        clear H1
        replace H := Option.bind_eq_some_iff.mp H
        obtain ⟨t155, A100, H⟩ := H
        replace H : (if t155 = true then (ceiling_admit.l0 kj3 l0 l1 (l1.length : Int) 0) else (some 2)) = some r := H
        have A10 := Aside0.mk A100
        clear A100
        by_cases c11 : t155 = true
        · subst c11
          have H1 : (ceiling_admit.l0 kj3 l0 l1 (l1.length : Int) 0) = some r := by rw [if_pos rfl] at H; exact H
          clear H
          have H := H1
          clear H1
          have H' := Aside0.mk H
          clear H
          go_wp2_with (first | (go_at_call 62; (with_reducible refine (ceiling_between.calls a2 0 100000 true _ A10.out).mono ?_); rintro e w' ⟨rfl, ⟨nd, rfl⟩⟩; (try first | exact ⟨rfl, _, World.drewN_drewN _ _ _⟩ | exact ⟨rfl, _, Eq.trans (World.drewN_drewN _ _ _) (congrArg (World.drewN _) (Nat.add_assoc _ _ _))⟩)))
          repeat (go_quiet (first | (go_at_call 62; (with_reducible refine (ceiling_between.calls a2 0 100000 true _ A10.out).mono ?_); rintro e w' ⟨rfl, ⟨nd, rfl⟩⟩; (try first | exact ⟨rfl, _, World.drewN_drewN _ _ _⟩ | exact ⟨rfl, _, Eq.trans (World.drewN_drewN _ _ _) (congrArg (World.drewN _) (Nat.add_assoc _ _ _))⟩))); try go_wp2_with (first | (go_at_call 62; (with_reducible refine (ceiling_between.calls a2 0 100000 true _ A10.out).mono ?_); rintro e w' ⟨rfl, ⟨nd, rfl⟩⟩; (try first | exact ⟨rfl, _, World.drewN_drewN _ _ _⟩ | exact ⟨rfl, _, Eq.trans (World.drewN_drewN _ _ _) (congrArg (World.drewN _) (Nat.add_assoc _ _ _))⟩))))
          go_loopg [26] kj3 (fun kq v26 w' => ∃ (x26_2 : Int), v26 = .int .i64 x26_2 ∧ Aside0 (ceiling_admit.l0 kq l0 l1 (l1.length : Int) x26_2 = some r) ∧ Aside0 (kq ≤ kj3) ∧ Aside0 (Below w.heap.size w w'))
          case atStart => exact ⟨(0), (by first | rfl | (simp; done) | (simp [*]; done)), H', ⟨Nat.le_refl _⟩, ⟨by repeat (first | (with_reducible first | exact HB.out | apply below_alloc | apply pw_below_drewN | apply below_drew1) | exact HB.out)⟩⟩
          case round =>
            clear H'
            try clear c1
            try clear p2
            try clear c4
            try clear c6
            try clear c9
            try clear c11
            try clear p2
            obtain ⟨x26_2, rfl, HA, HK2, HB⟩ := hrel
            cases gk with
            | zero => exact absurd HA.out (by simp [ceiling_admit.l0])
            | succ k2 =>
              have H := HA.out
              clear HA
              simp only [ceiling_admit.l0] at H
              by_cases c12 : x26_2 < (l1.length : Int)
              · rw [if_pos c12] at H
                have c12b0 : decide (x26_2 < (l1.length : Int)) = true := decide_eq_true c12
                clear c12
                by_cases c13 : 0 ≤ x26_2
                · rw [if_pos c13] at H
                  have c13b0 : decide (0 ≤ x26_2) = true := decide_eq_true c13
                  clear c13
                  by_cases c14 : x26_2 < (l1.length : Int)
                  · rw [if_pos c14] at H
                    have c14b0 : decide (x26_2 < (l1.length : Int)) = true := decide_eq_true c14
                    clear c14
                    have H' := Aside0.mk H
                    clear H
                    have p156 : 0 ≤ (x26_2 : Int) := of_decide_eq_true (by first | (with_reducible assumption) | assumption)
                    have q156 : x26_2 < (l1.length : Int) := of_decide_eq_true (by first | (with_reducible assumption) | assumption)
                    obtain ⟨ad156, A156_0, c156_0, e156, hx156_0, hl156_0, hi156_0⟩ := at_L5 HR1.out x26_2 p156 q156
                    cases e156
                    replace hx156_0 := (HB.out.cell (World.block_lt_of_cell? w _ hx156_0)).trans hx156_0
                    have HR156_0 := Aside0.mk hi156_0
                    have HC156_0 := Aside0.mk hl156_0
                    clear hi156_0 hl156_0
                    replace p156 := eq_true p156
                    replace q156 := eq_true q156
                    go_wp2
                    repeat (go_quiet (fail); try go_wp2)
                    go_loopg [33] k2 (fun kq v33 w' => ∃ (x33_3 : Int), v33 = .int .i64 x33_3 ∧ Aside0 (ceiling_admit.l1 kq l0 x26_2 (rd_L5 l1 x26_2) l1 (l1.length : Int) x26_2 (rd_L5 l1 x26_2) ((rd_L5 l1 x26_2).length : Int) x33_3 = some r) ∧ Aside0 (kq ≤ k2) ∧ Aside0 (Below w.heap.size w w'))
                    case atStart => exact ⟨(0), (by first | rfl | (simp; done) | (simp [*]; done)), H', ⟨Nat.le_refl _⟩, ⟨by repeat (first | (with_reducible first | exact HB.out | apply below_alloc | apply pw_below_drewN | apply below_drew1) | exact HB.out)⟩⟩
                    case round =>
                      clear H'
                      try clear c1
                      try clear p1
                      try clear q1
                      try clear hx1
                      try clear p2
                      try clear c4
                      try clear c6
                      try clear c9
                      try clear c11
                      try clear c12
                      try clear c12b0
                      try clear c13
                      try clear c13b0
                      try clear c14
                      try clear c14b0
                      try clear hx156_0
                      try clear p156
                      try clear p2
                      try clear q156
                      obtain ⟨x33_3, rfl, HA, HK3, HB⟩ := hrel
                      cases gk with
                      | zero => exact absurd HA.out (by simp [ceiling_admit.l1])
                      | succ k3 =>
                        have H := HA.out
                        clear HA
                        simp only [ceiling_admit.l1] at H
                        by_cases c15 : x33_3 < ((rd_L5 l1 x26_2).length : Int)
                        · rw [if_pos c15] at H
                          have c15b0 : decide (x33_3 < ((rd_L5 l1 x26_2).length : Int)) = true := decide_eq_true c15
                          clear c15
                          by_cases c16 : 0 ≤ x33_3
                          · rw [if_pos c16] at H
                            have c16b0 : decide (0 ≤ x33_3) = true := decide_eq_true c16
                            clear c16
                            by_cases c17 : x33_3 < ((rd_L5 l1 x26_2).length : Int)
                            · rw [if_pos c17] at H
                              have c17b0 : decide (x33_3 < ((rd_L5 l1 x26_2).length : Int)) = true := decide_eq_true c17
                              clear c17
                              by_cases c18 : (rd (rd_L5 l1 x26_2) x33_3) < 0
                              · rw [if_pos c18] at H
                                have c18b0 : decide ((rd (rd_L5 l1 x26_2) x33_3) < 0) = true := decide_eq_true c18
                                clear c18
                                obtain rfl := Option.some.inj H
                                have p157 : 0 ≤ (x33_3 : Int) := of_decide_eq_true (by first | (with_reducible assumption) | assumption)
                                have q157 : x33_3 < ((rd_L5 l1 x26_2).length : Int) := of_decide_eq_true (by first | (with_reducible assumption) | assumption)
                                obtain ⟨ad157, e157, hx157_0⟩ := Kd.at_int HR156_0.out x33_3 p157 q157
                                cases e157
                                replace hx157_0 := (HB.out.cell (World.block_lt_of_cell? w _ hx157_0)).trans hx157_0
                                replace p157 := eq_true p157
                                replace q157 := eq_true q157
                                go_wp2
                                repeat (go_quiet (fail); try go_wp2)
                                go_ret
                                exact ⟨by first | rfl | (simp [errW_none, errW_some] <;> rfl) | (simp [*, errW_none, errW_some] <;> rfl), by repeat (first | (with_reducible first | exact HB.out | apply below_alloc | apply pw_below_drewN | apply below_drew1) | exact HB.out)⟩
                              · rw [if_neg c18] at H
                                have c18b0 : decide ((rd (rd_L5 l1 x26_2) x33_3) < 0) = false := decide_eq_false c18
                                clear c18
                                by_cases c19 : x33_3 > 0
                                · rw [if_pos c19] at H
                                  have c19b0 : decide (0 < x33_3) = true := decide_eq_true c19
                                  clear c19
                                  obtain ⟨ji20, hji20⟩ : ∃ j_ : Int, (wrap64 (x33_3 - 1)) = j_ := ⟨_, rfl⟩
                                  replace H : (if 0 ≤ (ji20) then (if (ji20) < ((rd_L5 l1 x26_2).length : Int) then (if 0 ≤ x26_2 then (if x26_2 < (l0.length : Int) then (if (wrap64 ((rd (rd_L5 l1 x26_2) x33_3) - (rd (rd_L5 l1 x26_2) (ji20)))) < ((rd_T49 l0 x26_2).f1) then (some 2) else (ceiling_admit.l1 k3 l0 x26_2 (rd_L5 l1 x26_2) l1 (l1.length : Int) x26_2 (rd_L5 l1 x26_2) ((rd_L5 l1 x26_2).length : Int) (wrap64 (x33_3 + 1)))) else (none)) else (none)) else (none)) else (none)) = some r := by first | (rw [hji20] at H; exact H) | (simp only [hji20] at H ⊢; exact H)
                                  have hji20w : (IntKind.i64.wrap (x33_3 - 1)) = ji20 := (i64_w _).trans hji20
                                  by_cases c21 : 0 ≤ (ji20)
                                  · rw [if_pos c21] at H
                                    have c21b0 : decide (0 ≤ (ji20)) = true := decide_eq_true c21
                                    clear c21
                                    by_cases c22 : (ji20) < ((rd_L5 l1 x26_2).length : Int)
                                    · rw [if_pos c22] at H
                                      have c22b0 : decide ((ji20) < ((rd_L5 l1 x26_2).length : Int)) = true := decide_eq_true c22
                                      clear c22
                                      by_cases c23 : 0 ≤ x26_2
                                      · rw [if_pos c23] at H
                                        have c23b0 : decide (0 ≤ x26_2) = true := decide_eq_true c23
                                        clear c23
                                        by_cases c24 : x26_2 < (l0.length : Int)
                                        · rw [if_pos c24] at H
                                          have c24b0 : decide (x26_2 < (l0.length : Int)) = true := decide_eq_true c24
                                          clear c24
                                          by_cases c25 : (wrap64 ((rd (rd_L5 l1 x26_2) x33_3) - (rd (rd_L5 l1 x26_2) (ji20)))) < ((rd_T49 l0 x26_2).f1)
                                          · rw [if_pos c25] at H
                                            have c25b0 : decide ((wrap64 ((rd (rd_L5 l1 x26_2) x33_3) - (rd (rd_L5 l1 x26_2) (ji20)))) < ((rd_T49 l0 x26_2).f1)) = true := decide_eq_true c25
                                            clear c25
                                            obtain rfl := Option.some.inj H
                                            have p157 : 0 ≤ (x33_3 : Int) := of_decide_eq_true (by first | (with_reducible assumption) | assumption)
                                            have q157 : x33_3 < ((rd_L5 l1 x26_2).length : Int) := of_decide_eq_true (by first | (with_reducible assumption) | assumption)
                                            obtain ⟨ad157, e157, hx157_0⟩ := Kd.at_int HR156_0.out x33_3 p157 q157
                                            cases e157
                                            replace hx157_0 := (HB.out.cell (World.block_lt_of_cell? w _ hx157_0)).trans hx157_0
                                            replace p157 := eq_true p157
                                            replace q157 := eq_true q157
                                            have p158 : 0 ≤ ((ji20) : Int) := of_decide_eq_true (by first | (with_reducible assumption) | assumption)
                                            have q158 : (ji20) < ((rd_L5 l1 x26_2).length : Int) := of_decide_eq_true (by first | (with_reducible assumption) | assumption)
                                            obtain ⟨ad158, e158, hx158_0⟩ := Kd.at_int HR156_0.out (ji20) p158 q158
                                            obtain rfl : ad157 = ad158 := (by injection e158)
                                            replace hx158_0 := (HB.out.cell (World.block_lt_of_cell? w _ hx158_0)).trans hx158_0
                                            replace p158 := eq_true p158
                                            replace q158 := eq_true q158
                                            have p159 : 0 ≤ (x26_2 : Int) := of_decide_eq_true (by first | (with_reducible assumption) | assumption)
                                            have q159 : x26_2 < (l0.length : Int) := of_decide_eq_true (by first | (with_reducible assumption) | assumption)
                                            obtain ⟨ad159, A159_3, c159_3, e159, hx159_0, hx159_1, hx159_2, hx159_3, hl159_3, hi159_3⟩ := at_T49 HR0.out x26_2 p159 q159
                                            cases e159
                                            replace hx159_0 := (HB.out.cell (World.block_lt_of_cell? w _ hx159_0)).trans hx159_0
                                            replace hx159_1 := (HB.out.cell (World.block_lt_of_cell? w _ hx159_1)).trans hx159_1
                                            replace hx159_2 := (HB.out.cell (World.block_lt_of_cell? w _ hx159_2)).trans hx159_2
                                            replace hx159_3 := (HB.out.cell (World.block_lt_of_cell? w _ hx159_3)).trans hx159_3
                                            have HR159_3 := Aside0.mk hi159_3
                                            have HC159_3 := Aside0.mk hl159_3
                                            clear hi159_3 hl159_3
                                            replace p159 := eq_true p159
                                            replace q159 := eq_true q159
                                            go_wp2
                                            repeat (go_quiet (fail); try go_wp2)
                                            go_ret
                                            exact ⟨by first | rfl | (simp [errW_none, errW_some] <;> rfl) | (simp only [← hji20]; first | rfl | (simp [errW_none, errW_some] <;> rfl)) | (simp [*, errW_none, errW_some] <;> rfl), by repeat (first | (with_reducible first | exact HB.out | apply below_alloc | apply pw_below_drewN | apply below_drew1) | exact HB.out)⟩
                                          · rw [if_neg c25] at H
                                            have c25b0 : decide ((wrap64 ((rd (rd_L5 l1 x26_2) x33_3) - (rd (rd_L5 l1 x26_2) (ji20)))) < ((rd_T49 l0 x26_2).f1)) = false := decide_eq_false c25
                                            clear c25
                                            have H' := Aside0.mk H
                                            clear H
                                            have p157 : 0 ≤ (x33_3 : Int) := of_decide_eq_true (by first | (with_reducible assumption) | assumption)
                                            have q157 : x33_3 < ((rd_L5 l1 x26_2).length : Int) := of_decide_eq_true (by first | (with_reducible assumption) | assumption)
                                            obtain ⟨ad157, e157, hx157_0⟩ := Kd.at_int HR156_0.out x33_3 p157 q157
                                            cases e157
                                            replace hx157_0 := (HB.out.cell (World.block_lt_of_cell? w _ hx157_0)).trans hx157_0
                                            replace p157 := eq_true p157
                                            replace q157 := eq_true q157
                                            have p158 : 0 ≤ ((ji20) : Int) := of_decide_eq_true (by first | (with_reducible assumption) | assumption)
                                            have q158 : (ji20) < ((rd_L5 l1 x26_2).length : Int) := of_decide_eq_true (by first | (with_reducible assumption) | assumption)
                                            obtain ⟨ad158, e158, hx158_0⟩ := Kd.at_int HR156_0.out (ji20) p158 q158
                                            obtain rfl : ad157 = ad158 := (by injection e158)
                                            replace hx158_0 := (HB.out.cell (World.block_lt_of_cell? w _ hx158_0)).trans hx158_0
                                            replace p158 := eq_true p158
                                            replace q158 := eq_true q158
                                            have p159 : 0 ≤ (x26_2 : Int) := of_decide_eq_true (by first | (with_reducible assumption) | assumption)
                                            have q159 : x26_2 < (l0.length : Int) := of_decide_eq_true (by first | (with_reducible assumption) | assumption)
                                            obtain ⟨ad159, A159_3, c159_3, e159, hx159_0, hx159_1, hx159_2, hx159_3, hl159_3, hi159_3⟩ := at_T49 HR0.out x26_2 p159 q159
                                            cases e159
                                            replace hx159_0 := (HB.out.cell (World.block_lt_of_cell? w _ hx159_0)).trans hx159_0
                                            replace hx159_1 := (HB.out.cell (World.block_lt_of_cell? w _ hx159_1)).trans hx159_1
                                            replace hx159_2 := (HB.out.cell (World.block_lt_of_cell? w _ hx159_2)).trans hx159_2
                                            replace hx159_3 := (HB.out.cell (World.block_lt_of_cell? w _ hx159_3)).trans hx159_3
                                            have HR159_3 := Aside0.mk hi159_3
                                            have HC159_3 := Aside0.mk hl159_3
                                            clear hi159_3 hl159_3
                                            replace p159 := eq_true p159
                                            replace q159 := eq_true q159
                                            go_wp2
                                            repeat (go_quiet (fail); try go_wp2)
                                            go_roundg k3
                                            case measure => have := HJ3.out; have := HK2.out; have := HK3.out; omega
                                            case rel => exact ⟨(wrap64 (x33_3 + 1)), (by first | rfl | (simp; done) | (simp [*]; done)), H', ⟨by have := HJ3.out; have := HK2.out; have := HK3.out; omega⟩, ⟨by repeat (first | (with_reducible first | exact HB.out | apply below_alloc | apply pw_below_drewN | apply below_drew1) | exact HB.out)⟩⟩
                                        · rw [if_neg c24] at H
                                          exact absurd H (by simp)
                                      · rw [if_neg c23] at H
                                        exact absurd H (by simp)
                                    · rw [if_neg c22] at H
                                      exact absurd H (by simp)
                                  · rw [if_neg c21] at H
                                    exact absurd H (by simp)
                                · rw [if_neg c19] at H
                                  have c19b0 : decide (0 < x33_3) = false := decide_eq_false c19
                                  clear c19
                                  have H' := Aside0.mk H
                                  clear H
                                  have p157 : 0 ≤ (x33_3 : Int) := of_decide_eq_true (by first | (with_reducible assumption) | assumption)
                                  have q157 : x33_3 < ((rd_L5 l1 x26_2).length : Int) := of_decide_eq_true (by first | (with_reducible assumption) | assumption)
                                  obtain ⟨ad157, e157, hx157_0⟩ := Kd.at_int HR156_0.out x33_3 p157 q157
                                  cases e157
                                  replace hx157_0 := (HB.out.cell (World.block_lt_of_cell? w _ hx157_0)).trans hx157_0
                                  replace p157 := eq_true p157
                                  replace q157 := eq_true q157
                                  go_wp2
                                  repeat (go_quiet (fail); try go_wp2)
                                  go_roundg k3
                                  case measure => have := HJ3.out; have := HK2.out; have := HK3.out; omega
                                  case rel => exact ⟨(wrap64 (x33_3 + 1)), (by first | rfl | (simp; done) | (simp [*]; done)), H', ⟨by have := HJ3.out; have := HK2.out; have := HK3.out; omega⟩, ⟨by repeat (first | (with_reducible first | exact HB.out | apply below_alloc | apply pw_below_drewN | apply below_drew1) | exact HB.out)⟩⟩
                            · rw [if_neg c17] at H
                              exact absurd H (by simp)
                          · rw [if_neg c16] at H
                            exact absurd H (by simp)
                        · rw [if_neg c15] at H
                          have c15b0 : decide (x33_3 < ((rd_L5 l1 x26_2).length : Int)) = false := decide_eq_false c15
                          clear c15
                          have H' := Aside0.mk H
                          clear H
                          go_wp2
                          repeat (go_quiet (fail); try go_wp2)
                          go_roundg k3
                          case measure => have := HJ3.out; have := HK2.out; have := HK3.out; omega
                          case rel => exact ⟨(wrap64 (x26_2 + 1)), (by first | rfl | (simp; done) | (simp [*]; done)), H', ⟨by have := HJ3.out; have := HK2.out; have := HK3.out; omega⟩, ⟨by repeat (first | (with_reducible first | exact HB.out | apply below_alloc | apply pw_below_drewN | apply below_drew1) | exact HB.out)⟩⟩
                  · rw [if_neg c14] at H
                    exact absurd H (by simp)
                · rw [if_neg c13] at H
                  exact absurd H (by simp)
              · rw [if_neg c12] at H
                have c12b0 : decide (x26_2 < (l1.length : Int)) = false := decide_eq_false c12
                clear c12
                obtain rfl := Option.some.inj H
                go_wp2
                repeat (go_quiet (fail); try go_wp2)
                go_ret
                exact ⟨by first | rfl | (simp [errW_none, errW_some] <;> rfl) | (simp [*, errW_none, errW_some] <;> rfl), by repeat (first | (with_reducible first | exact HB.out | apply below_alloc | apply pw_below_drewN | apply below_drew1) | exact HB.out)⟩
        · replace c11 := Bool.eq_false_iff.mpr c11
          subst c11
          have H1 : (some 2) = some r := by rw [if_neg (show ¬ (false = true) by decide)] at H; exact H
          clear H
          have H := H1
          clear H1
          obtain rfl := Option.some.inj H
          go_wp2_with (first | (go_at_call 62; (with_reducible refine (ceiling_between.calls a2 0 100000 false _ A10.out).mono ?_); rintro e w' ⟨rfl, ⟨nd, rfl⟩⟩; (try first | exact ⟨rfl, _, World.drewN_drewN _ _ _⟩ | exact ⟨rfl, _, Eq.trans (World.drewN_drewN _ _ _) (congrArg (World.drewN _) (Nat.add_assoc _ _ _))⟩)))
          repeat (go_quiet (first | (go_at_call 62; (with_reducible refine (ceiling_between.calls a2 0 100000 false _ A10.out).mono ?_); rintro e w' ⟨rfl, ⟨nd, rfl⟩⟩; (try first | exact ⟨rfl, _, World.drewN_drewN _ _ _⟩ | exact ⟨rfl, _, Eq.trans (World.drewN_drewN _ _ _) (congrArg (World.drewN _) (Nat.add_assoc _ _ _))⟩))); try go_wp2_with (first | (go_at_call 62; (with_reducible refine (ceiling_between.calls a2 0 100000 false _ A10.out).mono ?_); rintro e w' ⟨rfl, ⟨nd, rfl⟩⟩; (try first | exact ⟨rfl, _, World.drewN_drewN _ _ _⟩ | exact ⟨rfl, _, Eq.trans (World.drewN_drewN _ _ _) (congrArg (World.drewN _) (Nat.add_assoc _ _ _))⟩))))
          go_ret
          exact ⟨by first | rfl | (simp [errW_none, errW_some] <;> rfl) | (simp [*, errW_none, errW_some] <;> rfl), by repeat (first | (with_reducible first | exact HB.out | apply below_alloc | apply pw_below_drewN | apply below_drew1) | exact HB.out)⟩

-- NOT PRINTED: function 49 (ceiling_pending_49)

/-! ### ceiling_Task_holds: function 59 -/
def ceiling_Task_holds.l0 : Nat → Int → List (S68) → Int → Int → Option (Int × Int × Int × Bool)
  | 0, _, _, _, _ => none
  | k + 1, x1, x9, x10, x11 => if x11 < x10 then (if 0 ≤ x11 then (if x11 < (x9.length : Int) then (if ((rd_T68 x9 x11).f1) < x1 then (if x1 < ((rd_T68 x9 x11).f2) then (some ((rd_T68 x9 x11).f0, (rd_T68 x9 x11).f1, (rd_T68 x9 x11).f2, true)) else (ceiling_Task_holds.l0 k x1 x9 x10 (wrap64 (x11 + 1)))) else (ceiling_Task_holds.l0 k x1 x9 x10 (wrap64 (x11 + 1)))) else (none)) else (none)) else (some (0, 0, 0, false))
def ceiling_Task_holds.f (k : Nat) (a0_0 : Int) (a0_1 : Int) (a0_2 : Int) (l0_3 : List (S68)) (a1 : Int) : Option (Int × Int × Int × Bool) := ceiling_Task_holds.l0 k a1 l0_3 (l0_3.length : Int) 0
theorem ceiling_Task_holds.mono_l : ∀ k, (∀ y0 y1 y2 y3, LeO (ceiling_Task_holds.l0 k y0 y1 y2 y3) (ceiling_Task_holds.l0 (k + 1) y0 y1 y2 y3))
  | 0 => fun _ _ _ _ r h => by simp [ceiling_Task_holds.l0] at h
  | k + 1 => by
    have ih0 := ceiling_Task_holds.mono_l k
    · intro y0 y1 y2 y3
      unfold ceiling_Task_holds.l0
      repeat' first
      | (with_reducible exact ih0 _ _ _ _)
      | (with_reducible exact LeO.refl _)
      | (with_reducible exact LeO.none _)
      | (with_reducible refine LeO.ite ?_ ?_)
      | (with_reducible refine LeO.bind ?_ (fun _ => ?_))
      | exact ih0 _ _ _ _
      | exact LeO.none _
      | refine LeO.ite ?_ ?_
      | refine LeO.bind ?_ (fun _ => ?_)
theorem ceiling_Task_holds.mono : ∀ a0 a1 a2 a3 a4 k, LeO (ceiling_Task_holds.f k a0 a1 a2 a3 a4) (ceiling_Task_holds.f (k + 1) a0 a1 a2 a3 a4) := by
  intro a0 a1 a2 a3 a4 k
  have ih0 := ceiling_Task_holds.mono_l k
  unfold ceiling_Task_holds.f
  repeat' first
      | (with_reducible exact ih0 _ _ _ _)
      | (with_reducible exact LeO.refl _)
      | (with_reducible exact LeO.none _)
      | (with_reducible refine LeO.ite ?_ ?_)
      | (with_reducible refine LeO.bind ?_ (fun _ => ?_))
      | exact ih0 _ _ _ _
      | exact LeO.none _
      | refine LeO.ite ?_ ?_
      | refine LeO.bind ?_ (fun _ => ?_)
set_option maxHeartbeats 8000000 in
set_option maxRecDepth 100000 in
theorem ceiling_Task_holds.calls (k : Nat) (a0_0 : Int) (a0_1 : Int) (a0_2 : Int) (A0_3 : Option Addr) (c0_3 : Nat) (l0_3 : List (S68)) (a1 : Int) (r1 : Int) (r2 : Int) (r3 : Int) (r4 : Bool) (w : World) (hr0_3 : Kd.C k68 w A0_3 l0_3.length l0_3) (hc0_3 : l0_3.length ≤ c0_3) (h : ceiling_Task_holds.f k a0_0 a0_1 a0_2 l0_3 a1 = some (r1, r2, r3, r4)) :
    Calls Try.prog 59 #[.agg #[.int .i64 a0_0, .int .i64 a0_1, .int .i64 a0_2, .slice A0_3 l0_3.length c0_3], .int .i64 a1] w fun e w' => e = .returned (.tuple #[.agg #[.int .i64 r1, .int .i64 r2, .int .i64 r3], .bool r4]) ∧ Below w.heap.size w w' := by
  have hu49 := Try.underlying49
  have hu68 := Try.underlying68
  have HR0_3 := Aside0.mk hr0_3
  have HC0_3 := Aside0.mk hc0_3
  clear hr0_3 hc0_3
  have HB := Aside0.mk (Below.refl w.heap.size w)
  have H : (ceiling_Task_holds.l0 k a1 l0_3 (l0_3.length : Int) 0) = some (r1, r2, r3, r4) := h
  clear h
  have H' := Aside0.mk H
  clear H
  go_enter Try.func59, Try.ntmps59
  go_wp2_with (first | ((with_reducible refine gate_dst (N := 2) rfl ?_); refine box_event ?hg (N := 2) ?hd (cs := #[.int .i64 a0_0, .int .i64 a0_1, .int .i64 a0_2, .slice A0_3 l0_3.length c0_3]) (t := 49) ?hr ?_; (case hd => rfl); (case hg => rfl); (case hr => first | (go_simp; done) | (go_simp; rfl)); intro gb160 hg w3 hbox hb; have n0_ := Aside0.mk (below_step (by repeat (first | (with_reducible first | exact HB.out | apply below_alloc | apply pw_below_drewN | apply below_drew1) | exact HB.out)) hb); have n1_ := Aside0.mk (hbox); have n2_ := Aside0.mk ((by rw [hg]; exact (below_size (by repeat (first | (with_reducible first | exact HB.out | apply below_alloc | apply pw_below_drewN | apply below_drew1) | exact HB.out))) : w.heap.size ≤ gb160)); have n3_ := Aside0.mk ((by rw [hg]; exact (below_size (by repeat (first | (with_reducible first | exact HB.out | apply below_alloc | apply pw_below_drewN | apply below_drew1) | exact HB.out))) : w.heap.size ≤ gb160)); clear HB; have HB := n0_; have BK160 := n1_; have GW160 := n2_; have GE160 := n3_; clear n0_ n1_ n2_ n3_; clear hb hbox hg) | ((with_reducible refine gate_dst (N := 4) rfl ?_); refine box_event ?hg (N := 4) ?hd (cs := #[.int .i64 0, .int .i64 0, .int .i64 0]) (t := 68) ?hr ?_; (case hd => rfl); (case hg => rfl); (case hr => first | (go_simp; done) | (go_simp; rfl)); intro gb161 hg w4 hbox hb; have n0_ := Aside0.mk (blk_below (g := gb160) (o := .cells #[.int .i64 a0_0, .int .i64 a0_1, .int .i64 a0_2, .slice A0_3 l0_3.length c0_3] 49 (0, 0)) (by (with_reducible repeat (first | refine blk_drewN ?_ _ | refine blk_drew ?_ | refine blk_alloc ?_ _)); exact BK160.out) hb); have n1_ := Aside0.mk (below_step (by repeat (first | (with_reducible first | exact HB.out | apply below_alloc | apply pw_below_drewN | apply below_drew1 | refine below_set ?_ GE160.out) | exact HB.out)) hb); have n2_ := Aside0.mk (hbox); have n3_ := Aside0.mk ((by rw [hg]; exact (below_size (by repeat (first | (with_reducible first | exact HB.out | apply below_alloc | apply pw_below_drewN | apply below_drew1 | refine below_set ?_ GE160.out) | exact HB.out))) : w.heap.size ≤ gb161)); have n4_ := Aside0.mk ((by rw [hg]; exact (below_size (by repeat (first | (with_reducible first | exact HB.out | apply below_alloc | apply pw_below_drewN | apply below_drew1 | refine below_set ?_ GE160.out) | exact HB.out))) : w.heap.size ≤ gb161)); have n5_ := Aside0.mk ((by rw [hg]; exact Nat.ne_of_lt (blk_lt (g := gb160) (o := .cells #[.int .i64 a0_0, .int .i64 a0_1, .int .i64 a0_2, .slice A0_3 l0_3.length c0_3] 49 (0, 0)) (by (with_reducible repeat (first | refine blk_drewN ?_ _ | refine blk_drew ?_ | refine blk_alloc ?_ _)); exact BK160.out)) : gb160 ≠ gb161)); have n6_ := Aside0.mk ((by rw [hg]; exact Nat.ne_of_gt (blk_lt (g := gb160) (o := .cells #[.int .i64 a0_0, .int .i64 a0_1, .int .i64 a0_2, .slice A0_3 l0_3.length c0_3] 49 (0, 0)) (by (with_reducible repeat (first | refine blk_drewN ?_ _ | refine blk_drew ?_ | refine blk_alloc ?_ _)); exact BK160.out)) : gb161 ≠ gb160)); clear BK160; clear HB; have BK160 := n0_; have HB := n1_; have BK161 := n2_; have GW161 := n3_; have GE161 := n4_; have NB160_161 := n5_; have NB161_160 := n6_; clear n0_ n1_ n2_ n3_ n4_ n5_ n6_; clear hb hbox hg; have hnb5 := NB160_161.out; have hnc5 := NB161_160.out; have hcz6_0 : w4.cell? ⟨gb160, 0, none⟩ = some (.int .i64 a0_0) := (blk_cell BK160.out 0).trans rfl; have hcz6_1 : w4.cell? ⟨gb160, 1, none⟩ = some (.int .i64 a0_1) := (blk_cell BK160.out 1).trans rfl; have hcz6_2 : w4.cell? ⟨gb160, 2, none⟩ = some (.int .i64 a0_2) := (blk_cell BK160.out 2).trans rfl; have hcz6_3 : w4.cell? ⟨gb160, 3, none⟩ = some (.slice A0_3 l0_3.length c0_3) := (blk_cell BK160.out 3).trans rfl; have hfz6_0 := blk_frozen BK160.out 0; have hfz6_1 := blk_frozen BK160.out 1; have hfz6_2 := blk_frozen BK160.out 2; have hfz6_3 := blk_frozen BK160.out 3))
  go_loopg [11] k (fun kq v11 w' => ∃ (x11_1 : Int) (x162000_1 : Int) (x162001_1 : Int) (x162002_1 : Int), v11 = .int .i64 x11_1 ∧ Aside0 (ceiling_Task_holds.l0 kq a1 l0_3 (l0_3.length : Int) x11_1 = some (r1, r2, r3, r4)) ∧ Aside0 (kq ≤ k) ∧ Aside0 (w'.heap[gb160]? = some (.cells #[.int .i64 a0_0, .int .i64 a0_1, .int .i64 a0_2, (.slice A0_3 l0_3.length c0_3)] 49 (0, 0))) ∧ Aside0 (w'.heap[gb161]? = some (.cells #[.int .i64 x162000_1, .int .i64 x162001_1, .int .i64 x162002_1] 68 (0, 0))) ∧ Aside0 (Below w.heap.size w w'))
  case atStart => exact ⟨(0), (0), (0), (0), (by first | rfl | (simp; done) | (simp [*]; done)), H', ⟨Nat.le_refl _⟩, ⟨by (with_reducible repeat (first | refine blk_drewN ?_ _ | refine blk_drew ?_ | refine blk_alloc ?_ _)); exact BK160.out⟩, ⟨by (with_reducible repeat (first | refine blk_drewN ?_ _ | refine blk_drew ?_ | refine blk_alloc ?_ _)); exact BK161.out⟩, ⟨by repeat (first | (with_reducible first | exact HB.out | apply below_alloc | apply pw_below_drewN | apply below_drew1 | refine below_set ?_ GE160.out | refine below_set ?_ GE161.out) | exact HB.out)⟩⟩
  case round =>
    clear H'
    try clear p2
    try clear c5
    try clear hcz6_0
    try clear hcz6_1
    try clear hcz6_2
    try clear hcz6_3
    try clear hfz6_0
    try clear hfz6_1
    try clear hfz6_2
    try clear hfz6_3
    obtain ⟨x11_1, x162000_1, x162001_1, x162002_1, rfl, HA, HK1, BK160, BK161, HB⟩ := hrel
    cases gk with
    | zero => exact absurd HA.out (by simp [ceiling_Task_holds.l0])
    | succ k1 =>
      have H := HA.out
      clear HA
      simp only [ceiling_Task_holds.l0] at H
      by_cases c7 : x11_1 < (l0_3.length : Int)
      · rw [if_pos c7] at H
        have c7b0 : decide (x11_1 < (l0_3.length : Int)) = true := decide_eq_true c7
        clear c7
        by_cases c8 : 0 ≤ x11_1
        · rw [if_pos c8] at H
          have c8b0 : decide (0 ≤ x11_1) = true := decide_eq_true c8
          clear c8
          by_cases c9 : x11_1 < (l0_3.length : Int)
          · rw [if_pos c9] at H
            have c9b0 : decide (x11_1 < (l0_3.length : Int)) = true := decide_eq_true c9
            clear c9
            by_cases c10 : ((rd_T68 l0_3 x11_1).f1) < a1
            · rw [if_pos c10] at H
              have c10b0 : decide (((rd_T68 l0_3 x11_1).f1) < a1) = true := decide_eq_true c10
              clear c10
              by_cases c11 : a1 < ((rd_T68 l0_3 x11_1).f2)
              · rw [if_pos c11] at H
                have c11b0 : decide (a1 < ((rd_T68 l0_3 x11_1).f2)) = true := decide_eq_true c11
                clear c11
                simp only [Option.some.injEq, Prod.mk.injEq] at H
                obtain ⟨rfl, rfl, rfl, rfl⟩ := H
                have p162 : 0 ≤ (x11_1 : Int) := of_decide_eq_true (by first | (with_reducible assumption) | assumption)
                have q162 : x11_1 < (l0_3.length : Int) := of_decide_eq_true (by first | (with_reducible assumption) | assumption)
                obtain ⟨ad162, e162, hx162_0, hx162_1, hx162_2⟩ := at_T68 HR0_3.out x11_1 p162 q162
                cases e162
                replace hx162_0 := (HB.out.cell (World.block_lt_of_cell? w _ hx162_0)).trans hx162_0
                replace hx162_1 := (HB.out.cell (World.block_lt_of_cell? w _ hx162_1)).trans hx162_1
                replace hx162_2 := (HB.out.cell (World.block_lt_of_cell? w _ hx162_2)).trans hx162_2
                replace p162 := eq_true p162
                replace q162 := eq_true q162
                go_wp2_with (first | ((with_reducible refine gate_dst (N := 7) rfl ?_); refine box_event ?hg (N := 7) ?hd (cs := #[.int .i64 0, .int .i64 0, .int .i64 0]) (t := 68) ?hr ?_; (case hd => rfl); (case hg => rfl); (case hr => first | (go_simp; done) | (go_simp; rfl)); intro gb163 hg w12 hbox hb; have n0_ := Aside0.mk (blk_below (g := gb160) (o := .cells #[.int .i64 a0_0, .int .i64 a0_1, .int .i64 a0_2, .slice (some ad162) l0_3.length c0_3] 49 (0, 0)) (by (with_reducible repeat (first | refine blk_drewN ?_ _ | refine blk_drew ?_ | refine blk_alloc ?_ _)); exact BK160.out) hb); have n1_ := Aside0.mk (blk_below (g := gb161) (o := .cells #[.int .i64 x162000_1, .int .i64 x162001_1, .int .i64 x162002_1] 68 (0, 0)) (by (with_reducible repeat (first | refine blk_drewN ?_ _ | refine blk_drew ?_ | refine blk_alloc ?_ _)); exact BK161.out) hb); have n2_ := Aside0.mk (below_step (by repeat (first | (with_reducible first | exact HB.out | apply below_alloc | apply pw_below_drewN | apply below_drew1 | refine below_set ?_ GE160.out | refine below_set ?_ GE161.out) | exact HB.out)) hb); have n3_ := Aside0.mk (hbox); have n4_ := Aside0.mk ((by rw [hg]; exact (below_size (by repeat (first | (with_reducible first | exact HB.out | apply below_alloc | apply pw_below_drewN | apply below_drew1 | refine below_set ?_ GE160.out | refine below_set ?_ GE161.out) | exact HB.out))) : w.heap.size ≤ gb163)); have n5_ := Aside0.mk ((by rw [hg]; exact (below_size (by repeat (first | (with_reducible first | exact HB.out | apply below_alloc | apply pw_below_drewN | apply below_drew1 | refine below_set ?_ GE160.out | refine below_set ?_ GE161.out) | exact HB.out))) : w.heap.size ≤ gb163)); have n6_ := Aside0.mk ((by rw [hg]; exact Nat.ne_of_lt (blk_lt (g := gb160) (o := .cells #[.int .i64 a0_0, .int .i64 a0_1, .int .i64 a0_2, .slice (some ad162) l0_3.length c0_3] 49 (0, 0)) (by (with_reducible repeat (first | refine blk_drewN ?_ _ | refine blk_drew ?_ | refine blk_alloc ?_ _)); exact BK160.out)) : gb160 ≠ gb163)); have n7_ := Aside0.mk ((by rw [hg]; exact Nat.ne_of_gt (blk_lt (g := gb160) (o := .cells #[.int .i64 a0_0, .int .i64 a0_1, .int .i64 a0_2, .slice (some ad162) l0_3.length c0_3] 49 (0, 0)) (by (with_reducible repeat (first | refine blk_drewN ?_ _ | refine blk_drew ?_ | refine blk_alloc ?_ _)); exact BK160.out)) : gb163 ≠ gb160)); have n8_ := Aside0.mk ((by rw [hg]; exact Nat.ne_of_lt (blk_lt (g := gb161) (o := .cells #[.int .i64 x162000_1, .int .i64 x162001_1, .int .i64 x162002_1] 68 (0, 0)) (by (with_reducible repeat (first | refine blk_drewN ?_ _ | refine blk_drew ?_ | refine blk_alloc ?_ _)); exact BK161.out)) : gb161 ≠ gb163)); have n9_ := Aside0.mk ((by rw [hg]; exact Nat.ne_of_gt (blk_lt (g := gb161) (o := .cells #[.int .i64 x162000_1, .int .i64 x162001_1, .int .i64 x162002_1] 68 (0, 0)) (by (with_reducible repeat (first | refine blk_drewN ?_ _ | refine blk_drew ?_ | refine blk_alloc ?_ _)); exact BK161.out)) : gb163 ≠ gb161)); clear BK160; clear BK161; clear HB; have BK160 := n0_; have BK161 := n1_; have HB := n2_; have BK163 := n3_; have GW163 := n4_; have GE163 := n5_; have NB160_163 := n6_; have NB163_160 := n7_; have NB161_163 := n8_; have NB163_161 := n9_; clear n0_ n1_ n2_ n3_ n4_ n5_ n6_ n7_ n8_ n9_; clear hb hbox hg; have hnb13 := NB163_160.out; have hnc13 := NB160_163.out; have hnb14 := NB163_161.out; have hnc14 := NB161_163.out; have hcz15_0 : w12.cell? ⟨gb163, 0, none⟩ = some (.int .i64 0) := (blk_cell BK163.out 0).trans rfl; have hcz15_1 : w12.cell? ⟨gb163, 1, none⟩ = some (.int .i64 0) := (blk_cell BK163.out 1).trans rfl; have hcz15_2 : w12.cell? ⟨gb163, 2, none⟩ = some (.int .i64 0) := (blk_cell BK163.out 2).trans rfl; have hfz15_0 := blk_frozen BK163.out 0; have hfz15_1 := blk_frozen BK163.out 1; have hfz15_2 := blk_frozen BK163.out 2; have hnb16 := NB161_160.out; have hnc16 := NB160_161.out; have hcz17_0 : w12.cell? ⟨gb161, 0, none⟩ = some (.int .i64 x162000_1) := (blk_cell BK161.out 0).trans rfl; have hcz17_1 : w12.cell? ⟨gb161, 1, none⟩ = some (.int .i64 x162001_1) := (blk_cell BK161.out 1).trans rfl; have hcz17_2 : w12.cell? ⟨gb161, 2, none⟩ = some (.int .i64 x162002_1) := (blk_cell BK161.out 2).trans rfl; have hfz17_0 := blk_frozen BK161.out 0; have hfz17_1 := blk_frozen BK161.out 1; have hfz17_2 := blk_frozen BK161.out 2))
                refine bodyPost_ret (results_ct rfl _ _ gb161 68 #[.int .i64 ((rd_T68 l0_3 x11_1).f0), .int .i64 ((rd_T68 l0_3 x11_1).f1), .int .i64 ((rd_T68 l0_3 x11_1).f2)] (0, 0) _ rfl (by (with_reducible repeat (first | refine blk_drewN ?_ _ | refine blk_drew ?_ | refine blk_alloc ?_ _)); refine blk_put (cs := #[.int .i64 ((rd_T68 l0_3 x11_1).f0), .int .i64 ((rd_T68 l0_3 x11_1).f1), .int .i64 x162002_1]) ?_ 2 _ rfl; (with_reducible repeat (first | refine blk_drewN ?_ _ | refine blk_drew ?_ | refine blk_alloc ?_ _)); refine blk_put (cs := #[.int .i64 ((rd_T68 l0_3 x11_1).f0), .int .i64 x162001_1, .int .i64 x162002_1]) ?_ 1 _ rfl; (with_reducible repeat (first | refine blk_drewN ?_ _ | refine blk_drew ?_ | refine blk_alloc ?_ _)); refine blk_put (cs := #[.int .i64 x162000_1, .int .i64 x162001_1, .int .i64 x162002_1]) ?_ 0 _ rfl; (with_reducible repeat (first | refine blk_drewN ?_ _ | refine blk_drew ?_ | refine blk_alloc ?_ _)); refine blk_far ?_ NB161_163.out _; (with_reducible repeat (first | refine blk_drewN ?_ _ | refine blk_drew ?_ | refine blk_alloc ?_ _)); refine blk_far ?_ NB161_163.out _; (with_reducible repeat (first | refine blk_drewN ?_ _ | refine blk_drew ?_ | refine blk_alloc ?_ _)); refine blk_far ?_ NB161_163.out _; (with_reducible repeat (first | refine blk_drewN ?_ _ | refine blk_drew ?_ | refine blk_alloc ?_ _)); exact BK161.out) Try.underlying68 rfl (by kernel_rfl)) rfl ?_
                exact ⟨by first | rfl | (simp [errW_none, errW_some] <;> rfl) | (simp [*, errW_none, errW_some] <;> rfl), by repeat (first | (with_reducible first | exact HB.out | apply below_alloc | apply pw_below_drewN | apply below_drew1 | refine below_set ?_ GE160.out | refine below_set ?_ GE161.out | refine below_set ?_ GE163.out) | exact HB.out)⟩
              · rw [if_neg c11] at H
                have c11b0 : decide (a1 < ((rd_T68 l0_3 x11_1).f2)) = false := decide_eq_false c11
                clear c11
                have H' := Aside0.mk H
                clear H
                have p162 : 0 ≤ (x11_1 : Int) := of_decide_eq_true (by first | (with_reducible assumption) | assumption)
                have q162 : x11_1 < (l0_3.length : Int) := of_decide_eq_true (by first | (with_reducible assumption) | assumption)
                obtain ⟨ad162, e162, hx162_0, hx162_1, hx162_2⟩ := at_T68 HR0_3.out x11_1 p162 q162
                cases e162
                replace hx162_0 := (HB.out.cell (World.block_lt_of_cell? w _ hx162_0)).trans hx162_0
                replace hx162_1 := (HB.out.cell (World.block_lt_of_cell? w _ hx162_1)).trans hx162_1
                replace hx162_2 := (HB.out.cell (World.block_lt_of_cell? w _ hx162_2)).trans hx162_2
                replace p162 := eq_true p162
                replace q162 := eq_true q162
                go_wp2_with (first | ((with_reducible refine gate_dst (N := 7) rfl ?_); refine box_event ?hg (N := 7) ?hd (cs := #[.int .i64 0, .int .i64 0, .int .i64 0]) (t := 68) ?hr ?_; (case hd => rfl); (case hg => rfl); (case hr => first | (go_simp; done) | (go_simp; rfl)); intro gb163 hg w18 hbox hb; have n0_ := Aside0.mk (blk_below (g := gb160) (o := .cells #[.int .i64 a0_0, .int .i64 a0_1, .int .i64 a0_2, .slice (some ad162) l0_3.length c0_3] 49 (0, 0)) (by (with_reducible repeat (first | refine blk_drewN ?_ _ | refine blk_drew ?_ | refine blk_alloc ?_ _)); exact BK160.out) hb); have n1_ := Aside0.mk (blk_below (g := gb161) (o := .cells #[.int .i64 x162000_1, .int .i64 x162001_1, .int .i64 x162002_1] 68 (0, 0)) (by (with_reducible repeat (first | refine blk_drewN ?_ _ | refine blk_drew ?_ | refine blk_alloc ?_ _)); exact BK161.out) hb); have n2_ := Aside0.mk (below_step (by repeat (first | (with_reducible first | exact HB.out | apply below_alloc | apply pw_below_drewN | apply below_drew1 | refine below_set ?_ GE160.out | refine below_set ?_ GE161.out) | exact HB.out)) hb); have n3_ := Aside0.mk (hbox); have n4_ := Aside0.mk ((by rw [hg]; exact (below_size (by repeat (first | (with_reducible first | exact HB.out | apply below_alloc | apply pw_below_drewN | apply below_drew1 | refine below_set ?_ GE160.out | refine below_set ?_ GE161.out) | exact HB.out))) : w.heap.size ≤ gb163)); have n5_ := Aside0.mk ((by rw [hg]; exact (below_size (by repeat (first | (with_reducible first | exact HB.out | apply below_alloc | apply pw_below_drewN | apply below_drew1 | refine below_set ?_ GE160.out | refine below_set ?_ GE161.out) | exact HB.out))) : w.heap.size ≤ gb163)); have n6_ := Aside0.mk ((by rw [hg]; exact Nat.ne_of_lt (blk_lt (g := gb160) (o := .cells #[.int .i64 a0_0, .int .i64 a0_1, .int .i64 a0_2, .slice (some ad162) l0_3.length c0_3] 49 (0, 0)) (by (with_reducible repeat (first | refine blk_drewN ?_ _ | refine blk_drew ?_ | refine blk_alloc ?_ _)); exact BK160.out)) : gb160 ≠ gb163)); have n7_ := Aside0.mk ((by rw [hg]; exact Nat.ne_of_gt (blk_lt (g := gb160) (o := .cells #[.int .i64 a0_0, .int .i64 a0_1, .int .i64 a0_2, .slice (some ad162) l0_3.length c0_3] 49 (0, 0)) (by (with_reducible repeat (first | refine blk_drewN ?_ _ | refine blk_drew ?_ | refine blk_alloc ?_ _)); exact BK160.out)) : gb163 ≠ gb160)); have n8_ := Aside0.mk ((by rw [hg]; exact Nat.ne_of_lt (blk_lt (g := gb161) (o := .cells #[.int .i64 x162000_1, .int .i64 x162001_1, .int .i64 x162002_1] 68 (0, 0)) (by (with_reducible repeat (first | refine blk_drewN ?_ _ | refine blk_drew ?_ | refine blk_alloc ?_ _)); exact BK161.out)) : gb161 ≠ gb163)); have n9_ := Aside0.mk ((by rw [hg]; exact Nat.ne_of_gt (blk_lt (g := gb161) (o := .cells #[.int .i64 x162000_1, .int .i64 x162001_1, .int .i64 x162002_1] 68 (0, 0)) (by (with_reducible repeat (first | refine blk_drewN ?_ _ | refine blk_drew ?_ | refine blk_alloc ?_ _)); exact BK161.out)) : gb163 ≠ gb161)); clear BK160; clear BK161; clear HB; have BK160 := n0_; have BK161 := n1_; have HB := n2_; have BK163 := n3_; have GW163 := n4_; have GE163 := n5_; have NB160_163 := n6_; have NB163_160 := n7_; have NB161_163 := n8_; have NB163_161 := n9_; clear n0_ n1_ n2_ n3_ n4_ n5_ n6_ n7_ n8_ n9_; clear hb hbox hg; have hnb19 := NB163_160.out; have hnc19 := NB160_163.out; have hnb20 := NB163_161.out; have hnc20 := NB161_163.out; have hcz21_0 : w18.cell? ⟨gb163, 0, none⟩ = some (.int .i64 0) := (blk_cell BK163.out 0).trans rfl; have hcz21_1 : w18.cell? ⟨gb163, 1, none⟩ = some (.int .i64 0) := (blk_cell BK163.out 1).trans rfl; have hcz21_2 : w18.cell? ⟨gb163, 2, none⟩ = some (.int .i64 0) := (blk_cell BK163.out 2).trans rfl; have hfz21_0 := blk_frozen BK163.out 0; have hfz21_1 := blk_frozen BK163.out 1; have hfz21_2 := blk_frozen BK163.out 2))
                go_roundg k1
                case measure => have := HK1.out; omega
                case rel => exact ⟨(wrap64 (x11_1 + 1)), (x162000_1), (x162001_1), (x162002_1), (by first | rfl | (simp; done) | (simp [*]; done)), H', ⟨by have := HK1.out; omega⟩, ⟨by (with_reducible repeat (first | refine blk_drewN ?_ _ | refine blk_drew ?_ | refine blk_alloc ?_ _)); refine blk_far ?_ NB160_163.out _; (with_reducible repeat (first | refine blk_drewN ?_ _ | refine blk_drew ?_ | refine blk_alloc ?_ _)); refine blk_far ?_ NB160_163.out _; (with_reducible repeat (first | refine blk_drewN ?_ _ | refine blk_drew ?_ | refine blk_alloc ?_ _)); refine blk_far ?_ NB160_163.out _; (with_reducible repeat (first | refine blk_drewN ?_ _ | refine blk_drew ?_ | refine blk_alloc ?_ _)); exact BK160.out⟩, ⟨by (with_reducible repeat (first | refine blk_drewN ?_ _ | refine blk_drew ?_ | refine blk_alloc ?_ _)); refine blk_far ?_ NB161_163.out _; (with_reducible repeat (first | refine blk_drewN ?_ _ | refine blk_drew ?_ | refine blk_alloc ?_ _)); refine blk_far ?_ NB161_163.out _; (with_reducible repeat (first | refine blk_drewN ?_ _ | refine blk_drew ?_ | refine blk_alloc ?_ _)); refine blk_far ?_ NB161_163.out _; (with_reducible repeat (first | refine blk_drewN ?_ _ | refine blk_drew ?_ | refine blk_alloc ?_ _)); exact BK161.out⟩, ⟨by repeat (first | (with_reducible first | exact HB.out | apply below_alloc | apply pw_below_drewN | apply below_drew1 | refine below_set ?_ GE160.out | refine below_set ?_ GE161.out | refine below_set ?_ GE163.out) | exact HB.out)⟩⟩
            · rw [if_neg c10] at H
              have c10b0 : decide (((rd_T68 l0_3 x11_1).f1) < a1) = false := decide_eq_false c10
              clear c10
              have H' := Aside0.mk H
              clear H
              have p162 : 0 ≤ (x11_1 : Int) := of_decide_eq_true (by first | (with_reducible assumption) | assumption)
              have q162 : x11_1 < (l0_3.length : Int) := of_decide_eq_true (by first | (with_reducible assumption) | assumption)
              obtain ⟨ad162, e162, hx162_0, hx162_1, hx162_2⟩ := at_T68 HR0_3.out x11_1 p162 q162
              cases e162
              replace hx162_0 := (HB.out.cell (World.block_lt_of_cell? w _ hx162_0)).trans hx162_0
              replace hx162_1 := (HB.out.cell (World.block_lt_of_cell? w _ hx162_1)).trans hx162_1
              replace hx162_2 := (HB.out.cell (World.block_lt_of_cell? w _ hx162_2)).trans hx162_2
              replace p162 := eq_true p162
              replace q162 := eq_true q162
              go_wp2_with (first | ((with_reducible refine gate_dst (N := 7) rfl ?_); refine box_event ?hg (N := 7) ?hd (cs := #[.int .i64 0, .int .i64 0, .int .i64 0]) (t := 68) ?hr ?_; (case hd => rfl); (case hg => rfl); (case hr => first | (go_simp; done) | (go_simp; rfl)); intro gb163 hg w22 hbox hb; have n0_ := Aside0.mk (blk_below (g := gb160) (o := .cells #[.int .i64 a0_0, .int .i64 a0_1, .int .i64 a0_2, .slice (some ad162) l0_3.length c0_3] 49 (0, 0)) (by (with_reducible repeat (first | refine blk_drewN ?_ _ | refine blk_drew ?_ | refine blk_alloc ?_ _)); exact BK160.out) hb); have n1_ := Aside0.mk (blk_below (g := gb161) (o := .cells #[.int .i64 x162000_1, .int .i64 x162001_1, .int .i64 x162002_1] 68 (0, 0)) (by (with_reducible repeat (first | refine blk_drewN ?_ _ | refine blk_drew ?_ | refine blk_alloc ?_ _)); exact BK161.out) hb); have n2_ := Aside0.mk (below_step (by repeat (first | (with_reducible first | exact HB.out | apply below_alloc | apply pw_below_drewN | apply below_drew1 | refine below_set ?_ GE160.out | refine below_set ?_ GE161.out) | exact HB.out)) hb); have n3_ := Aside0.mk (hbox); have n4_ := Aside0.mk ((by rw [hg]; exact (below_size (by repeat (first | (with_reducible first | exact HB.out | apply below_alloc | apply pw_below_drewN | apply below_drew1 | refine below_set ?_ GE160.out | refine below_set ?_ GE161.out) | exact HB.out))) : w.heap.size ≤ gb163)); have n5_ := Aside0.mk ((by rw [hg]; exact (below_size (by repeat (first | (with_reducible first | exact HB.out | apply below_alloc | apply pw_below_drewN | apply below_drew1 | refine below_set ?_ GE160.out | refine below_set ?_ GE161.out) | exact HB.out))) : w.heap.size ≤ gb163)); have n6_ := Aside0.mk ((by rw [hg]; exact Nat.ne_of_lt (blk_lt (g := gb160) (o := .cells #[.int .i64 a0_0, .int .i64 a0_1, .int .i64 a0_2, .slice (some ad162) l0_3.length c0_3] 49 (0, 0)) (by (with_reducible repeat (first | refine blk_drewN ?_ _ | refine blk_drew ?_ | refine blk_alloc ?_ _)); exact BK160.out)) : gb160 ≠ gb163)); have n7_ := Aside0.mk ((by rw [hg]; exact Nat.ne_of_gt (blk_lt (g := gb160) (o := .cells #[.int .i64 a0_0, .int .i64 a0_1, .int .i64 a0_2, .slice (some ad162) l0_3.length c0_3] 49 (0, 0)) (by (with_reducible repeat (first | refine blk_drewN ?_ _ | refine blk_drew ?_ | refine blk_alloc ?_ _)); exact BK160.out)) : gb163 ≠ gb160)); have n8_ := Aside0.mk ((by rw [hg]; exact Nat.ne_of_lt (blk_lt (g := gb161) (o := .cells #[.int .i64 x162000_1, .int .i64 x162001_1, .int .i64 x162002_1] 68 (0, 0)) (by (with_reducible repeat (first | refine blk_drewN ?_ _ | refine blk_drew ?_ | refine blk_alloc ?_ _)); exact BK161.out)) : gb161 ≠ gb163)); have n9_ := Aside0.mk ((by rw [hg]; exact Nat.ne_of_gt (blk_lt (g := gb161) (o := .cells #[.int .i64 x162000_1, .int .i64 x162001_1, .int .i64 x162002_1] 68 (0, 0)) (by (with_reducible repeat (first | refine blk_drewN ?_ _ | refine blk_drew ?_ | refine blk_alloc ?_ _)); exact BK161.out)) : gb163 ≠ gb161)); clear BK160; clear BK161; clear HB; have BK160 := n0_; have BK161 := n1_; have HB := n2_; have BK163 := n3_; have GW163 := n4_; have GE163 := n5_; have NB160_163 := n6_; have NB163_160 := n7_; have NB161_163 := n8_; have NB163_161 := n9_; clear n0_ n1_ n2_ n3_ n4_ n5_ n6_ n7_ n8_ n9_; clear hb hbox hg; have hnb23 := NB163_160.out; have hnc23 := NB160_163.out; have hnb24 := NB163_161.out; have hnc24 := NB161_163.out; have hcz25_0 : w22.cell? ⟨gb163, 0, none⟩ = some (.int .i64 0) := (blk_cell BK163.out 0).trans rfl; have hcz25_1 : w22.cell? ⟨gb163, 1, none⟩ = some (.int .i64 0) := (blk_cell BK163.out 1).trans rfl; have hcz25_2 : w22.cell? ⟨gb163, 2, none⟩ = some (.int .i64 0) := (blk_cell BK163.out 2).trans rfl; have hfz25_0 := blk_frozen BK163.out 0; have hfz25_1 := blk_frozen BK163.out 1; have hfz25_2 := blk_frozen BK163.out 2))
              go_roundg k1
              case measure => have := HK1.out; omega
              case rel => exact ⟨(wrap64 (x11_1 + 1)), (x162000_1), (x162001_1), (x162002_1), (by first | rfl | (simp; done) | (simp [*]; done)), H', ⟨by have := HK1.out; omega⟩, ⟨by (with_reducible repeat (first | refine blk_drewN ?_ _ | refine blk_drew ?_ | refine blk_alloc ?_ _)); refine blk_far ?_ NB160_163.out _; (with_reducible repeat (first | refine blk_drewN ?_ _ | refine blk_drew ?_ | refine blk_alloc ?_ _)); refine blk_far ?_ NB160_163.out _; (with_reducible repeat (first | refine blk_drewN ?_ _ | refine blk_drew ?_ | refine blk_alloc ?_ _)); refine blk_far ?_ NB160_163.out _; (with_reducible repeat (first | refine blk_drewN ?_ _ | refine blk_drew ?_ | refine blk_alloc ?_ _)); exact BK160.out⟩, ⟨by (with_reducible repeat (first | refine blk_drewN ?_ _ | refine blk_drew ?_ | refine blk_alloc ?_ _)); refine blk_far ?_ NB161_163.out _; (with_reducible repeat (first | refine blk_drewN ?_ _ | refine blk_drew ?_ | refine blk_alloc ?_ _)); refine blk_far ?_ NB161_163.out _; (with_reducible repeat (first | refine blk_drewN ?_ _ | refine blk_drew ?_ | refine blk_alloc ?_ _)); refine blk_far ?_ NB161_163.out _; (with_reducible repeat (first | refine blk_drewN ?_ _ | refine blk_drew ?_ | refine blk_alloc ?_ _)); exact BK161.out⟩, ⟨by repeat (first | (with_reducible first | exact HB.out | apply below_alloc | apply pw_below_drewN | apply below_drew1 | refine below_set ?_ GE160.out | refine below_set ?_ GE161.out | refine below_set ?_ GE163.out) | exact HB.out)⟩⟩
          · rw [if_neg c9] at H
            exact absurd H (by simp)
        · rw [if_neg c8] at H
          exact absurd H (by simp)
      · rw [if_neg c7] at H
        have c7b0 : decide (x11_1 < (l0_3.length : Int)) = false := decide_eq_false c7
        clear c7
        simp only [Option.some.injEq, Prod.mk.injEq] at H
        obtain ⟨rfl, rfl, rfl, rfl⟩ := H
        have hnb26 := NB161_160.out
        have hnc26 := NB160_161.out
        have hcz27_0 : wr.cell? ⟨gb161, 0, none⟩ = some (.int .i64 x162000_1) := (blk_cell BK161.out 0).trans rfl
        have hcz27_1 : wr.cell? ⟨gb161, 1, none⟩ = some (.int .i64 x162001_1) := (blk_cell BK161.out 1).trans rfl
        have hcz27_2 : wr.cell? ⟨gb161, 2, none⟩ = some (.int .i64 x162002_1) := (blk_cell BK161.out 2).trans rfl
        have hfz27_0 := blk_frozen BK161.out 0
        have hfz27_1 := blk_frozen BK161.out 1
        have hfz27_2 := blk_frozen BK161.out 2
        go_wp2
        refine bodyPost_ret (results_ct rfl _ _ gb161 68 #[.int .i64 0, .int .i64 0, .int .i64 0] (0, 0) _ rfl (by (with_reducible repeat (first | refine blk_drewN ?_ _ | refine blk_drew ?_ | refine blk_alloc ?_ _)); refine blk_put (cs := #[.int .i64 0, .int .i64 0, .int .i64 x162002_1]) ?_ 2 _ rfl; (with_reducible repeat (first | refine blk_drewN ?_ _ | refine blk_drew ?_ | refine blk_alloc ?_ _)); refine blk_put (cs := #[.int .i64 0, .int .i64 x162001_1, .int .i64 x162002_1]) ?_ 1 _ rfl; (with_reducible repeat (first | refine blk_drewN ?_ _ | refine blk_drew ?_ | refine blk_alloc ?_ _)); refine blk_put (cs := #[.int .i64 x162000_1, .int .i64 x162001_1, .int .i64 x162002_1]) ?_ 0 _ rfl; (with_reducible repeat (first | refine blk_drewN ?_ _ | refine blk_drew ?_ | refine blk_alloc ?_ _)); exact BK161.out) Try.underlying68 rfl (by kernel_rfl)) rfl ?_
        exact ⟨by first | rfl | (simp [errW_none, errW_some] <;> rfl) | (simp [*, errW_none, errW_some] <;> rfl), by repeat (first | (with_reducible first | exact HB.out | apply below_alloc | apply pw_below_drewN | apply below_drew1 | refine below_set ?_ GE160.out | refine below_set ?_ GE161.out) | exact HB.out)⟩

end Go.Proofs.Ytcmifojplgmgkaa.P
