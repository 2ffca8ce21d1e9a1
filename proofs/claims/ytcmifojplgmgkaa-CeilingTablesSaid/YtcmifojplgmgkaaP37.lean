-- written by wip/drive.py (a driver of this session's own over the kit's print.py)
import Derived.Test.YtcmifojplgmgkaaP0
namespace Go.Proofs.Ytcmifojplgmgkaa.P
open Go.RowKit Go.Proofs.YtcmifojplgmgkaaW.PrintWords Go.Proofs.YtcmifojplgmgkaaW.PrintLast Go.Proofs.YtcmifojplgmgkaaW.PrintMore
attribute [local go_sem] max2_int min2_int max_two min_two max_three min_three max_four min_four   -- for this text's walks alone
set_option linter.unusedVariables false
set_option linter.unusedSimpArgs false

/-! ### ontimeref43_Valid: function 40 -/
mutual
def ontimeref43_Valid.l0 : Nat → List (S93) → Int → Option (Bool)
  | 0, _, _ => none
  | k + 1, x0, x3 => if x3 < (x0.length : Int) then (if 0 ≤ x3 then (if ((rd_T93 x0 x3).f0) < 1 then (ontimeref43_Valid.j1 k x0 x3 true ((rd_T93 x0 x3).f0) ((rd_T93 x0 x3).f1) ((rd_T93 x0 x3).f2) ((rd_T93 x0 x3).f3)) else (if ((rd_T93 x0 x3).f0) > 1000 then (ontimeref43_Valid.j1 k x0 x3 true ((rd_T93 x0 x3).f0) ((rd_T93 x0 x3).f1) ((rd_T93 x0 x3).f2) ((rd_T93 x0 x3).f3)) else (if ((rd_T93 x0 x3).f1) < 1 then (ontimeref43_Valid.j1 k x0 x3 true ((rd_T93 x0 x3).f0) ((rd_T93 x0 x3).f1) ((rd_T93 x0 x3).f2) ((rd_T93 x0 x3).f3)) else (if ((rd_T93 x0 x3).f1) > 1000 then (ontimeref43_Valid.j1 k x0 x3 true ((rd_T93 x0 x3).f0) ((rd_T93 x0 x3).f1) ((rd_T93 x0 x3).f2) ((rd_T93 x0 x3).f3)) else (if ((rd_T93 x0 x3).f2) < 1 then (ontimeref43_Valid.j1 k x0 x3 true ((rd_T93 x0 x3).f0) ((rd_T93 x0 x3).f1) ((rd_T93 x0 x3).f2) ((rd_T93 x0 x3).f3)) else (if ((rd_T93 x0 x3).f2) > ((rd_T93 x0 x3).f1) then (ontimeref43_Valid.j1 k x0 x3 true ((rd_T93 x0 x3).f0) ((rd_T93 x0 x3).f1) ((rd_T93 x0 x3).f2) ((rd_T93 x0 x3).f3)) else (ontimeref43_Valid.j1 k x0 x3 (decide ((((rd_T93 x0 x3).f3).length : Int) > 8)) ((rd_T93 x0 x3).f0) ((rd_T93 x0 x3).f1) ((rd_T93 x0 x3).f2) ((rd_T93 x0 x3).f3)))))))) else (none)) else (some true)
def ontimeref43_Valid.j1 : Nat → List (S93) → Int → Bool → Int → Int → Int → List (S94) → Option (Bool)
  | 0, _, _, _, _, _, _, _ => none
  | k + 1, x0, x3, x56, x445000, x445001, x445002, x445003 => if x56 = true then (some false) else (ontimeref43_Valid.l1 k x0 x3 0 0 x445000 x445001 x445002 x445003)
def ontimeref43_Valid.l1 : Nat → List (S93) → Int → Int → Int → Int → Int → Int → List (S94) → Option (Bool)
  | 0, _, _, _, _, _, _, _, _ => none
  | k + 1, x0, x3, x5, x6, x445000, x445001, x445002, x445003 => if x6 < (x445003.length : Int) then (if 0 ≤ x6 then (if ((rd_T94 x445003 x6).f1) < x5 then (some false) else (if ((rd_T94 x445003 x6).f2) ≤ ((rd_T94 x445003 x6).f1) then (some false) else (if ((rd_T94 x445003 x6).f2) > x445000 then (some false) else (if ((rd_T94 x445003 x6).f0) < 0 then (some false) else (if ((rd_T94 x445003 x6).f0) > 1000 then (some false) else (ontimeref43_Valid.l1 k x0 x3 ((rd_T94 x445003 x6).f2) (wrap64 (x6 + 1)) x445000 x445001 x445002 x445003)))))) else (none)) else (ontimeref43_Valid.l0 k x0 (wrap64 (x3 + 1)))
end
def ontimeref43_Valid.f (k : Nat) (l0 : List (S93)) : Option (Bool) := if (l0.length : Int) > 20 then (some false) else (ontimeref43_Valid.l0 k l0 0)
theorem ontimeref43_Valid.mono_l : ∀ k, (∀ y0 y1, LeO (ontimeref43_Valid.l0 k y0 y1) (ontimeref43_Valid.l0 (k + 1) y0 y1)) ∧ (∀ y0 y1 y2 y3 y4 y5 y6, LeO (ontimeref43_Valid.j1 k y0 y1 y2 y3 y4 y5 y6) (ontimeref43_Valid.j1 (k + 1) y0 y1 y2 y3 y4 y5 y6)) ∧ (∀ y0 y1 y2 y3 y4 y5 y6 y7, LeO (ontimeref43_Valid.l1 k y0 y1 y2 y3 y4 y5 y6 y7) (ontimeref43_Valid.l1 (k + 1) y0 y1 y2 y3 y4 y5 y6 y7))
  | 0 => ⟨fun _ _ r h => by simp [ontimeref43_Valid.l0] at h, fun _ _ _ _ _ _ _ r h => by simp [ontimeref43_Valid.j1] at h, fun _ _ _ _ _ _ _ _ r h => by simp [ontimeref43_Valid.l1] at h⟩
  | k + 1 => by
    obtain ⟨ih0, ih1, ih2⟩ := ontimeref43_Valid.mono_l k
    refine ⟨?_, ?_, ?_⟩
    · intro y0 y1
      unfold ontimeref43_Valid.l0
      repeat' first
      | (with_reducible exact ih0 _ _)
      | (with_reducible exact ih1 _ _ _ _ _ _ _)
      | (with_reducible exact ih2 _ _ _ _ _ _ _ _)
      | (with_reducible exact LeO.refl _)
      | (with_reducible exact LeO.none _)
      | (with_reducible refine LeO.ite ?_ ?_)
      | (with_reducible refine LeO.bind ?_ (fun _ => ?_))
      | exact ih0 _ _
      | exact ih1 _ _ _ _ _ _ _
      | exact ih2 _ _ _ _ _ _ _ _
      | exact LeO.none _
      | refine LeO.ite ?_ ?_
      | refine LeO.bind ?_ (fun _ => ?_)
    · intro y0 y1 y2 y3 y4 y5 y6
      unfold ontimeref43_Valid.j1
      repeat' first
      | (with_reducible exact ih0 _ _)
      | (with_reducible exact ih1 _ _ _ _ _ _ _)
      | (with_reducible exact ih2 _ _ _ _ _ _ _ _)
      | (with_reducible exact LeO.refl _)
      | (with_reducible exact LeO.none _)
      | (with_reducible refine LeO.ite ?_ ?_)
      | (with_reducible refine LeO.bind ?_ (fun _ => ?_))
      | exact ih0 _ _
      | exact ih1 _ _ _ _ _ _ _
      | exact ih2 _ _ _ _ _ _ _ _
      | exact LeO.none _
      | refine LeO.ite ?_ ?_
      | refine LeO.bind ?_ (fun _ => ?_)
    · intro y0 y1 y2 y3 y4 y5 y6 y7
      unfold ontimeref43_Valid.l1
      repeat' first
      | (with_reducible exact ih0 _ _)
      | (with_reducible exact ih1 _ _ _ _ _ _ _)
      | (with_reducible exact ih2 _ _ _ _ _ _ _ _)
      | (with_reducible exact LeO.refl _)
      | (with_reducible exact LeO.none _)
      | (with_reducible refine LeO.ite ?_ ?_)
      | (with_reducible refine LeO.bind ?_ (fun _ => ?_))
      | exact ih0 _ _
      | exact ih1 _ _ _ _ _ _ _
      | exact ih2 _ _ _ _ _ _ _ _
      | exact LeO.none _
      | refine LeO.ite ?_ ?_
      | refine LeO.bind ?_ (fun _ => ?_)
theorem ontimeref43_Valid.mono : ∀ a0 k, LeO (ontimeref43_Valid.f k a0) (ontimeref43_Valid.f (k + 1) a0) := by
  intro a0 k
  obtain ⟨ih0, ih1, ih2⟩ := ontimeref43_Valid.mono_l k
  unfold ontimeref43_Valid.f
  repeat' first
      | (with_reducible exact ih0 _ _)
      | (with_reducible exact ih1 _ _ _ _ _ _ _)
      | (with_reducible exact ih2 _ _ _ _ _ _ _ _)
      | (with_reducible exact LeO.refl _)
      | (with_reducible exact LeO.none _)
      | (with_reducible refine LeO.ite ?_ ?_)
      | (with_reducible refine LeO.bind ?_ (fun _ => ?_))
      | exact ih0 _ _
      | exact ih1 _ _ _ _ _ _ _
      | exact ih2 _ _ _ _ _ _ _ _
      | exact LeO.none _
      | refine LeO.ite ?_ ?_
      | refine LeO.bind ?_ (fun _ => ?_)
set_option maxHeartbeats 8000000 in
set_option maxRecDepth 100000 in
theorem ontimeref43_Valid.calls (k : Nat) (A0 : Option Addr) (c0 : Nat) (l0 : List (S93)) (r : Bool) (w : World) (hr0 : Kd.C k93 w A0 l0.length l0) (hc0 : l0.length ≤ c0) (h : ontimeref43_Valid.f k l0 = some r) :
    Calls Try.prog 40 #[.slice A0 l0.length c0] w fun e w' => e = .returned (.bool r) ∧ Below w.heap.size w w' := by
  have hu93 := Try.underlying93
  have hu94 := Try.underlying94
  have HR0 := Aside0.mk hr0
  have HC0 := Aside0.mk hc0
  clear hr0 hc0
  have HB := Aside0.mk (Below.refl w.heap.size w)
  have H : (if (l0.length : Int) > 20 then (some false) else (ontimeref43_Valid.l0 k l0 0)) = some r := h
  clear h
  by_cases c2 : (l0.length : Int) > 20
  · rw [if_pos c2] at H
    have c2b0 : decide (20 < (l0.length : Int)) = true := decide_eq_true c2
    have c2b1 : decide (20 < l0.length) = true := decide_eq_true (by omega)
    clear c2
    obtain rfl := Option.some.inj H
    go_enter Try.func40, Try.ntmps40
    go_wp2
    go_ret
    exact ⟨by first | rfl | (simp [errW_none, errW_some] <;> rfl) | (simp [*, errW_none, errW_some] <;> rfl), by repeat (first | (with_reducible first | exact HB.out | apply below_alloc | apply pw_below_drewN | apply below_drew1) | exact HB.out)⟩
  · rw [if_neg c2] at H
    have c2b0 : decide (20 < (l0.length : Int)) = false := decide_eq_false c2
    have c2b1 : decide (20 < l0.length) = false := decide_eq_false (by omega)
    clear c2
    have H' := Aside0.mk H
    clear H
    go_enter Try.func40, Try.ntmps40
    go_wp2
    go_loopg [3] k (fun kq v3 w' => ∃ (x3_1 : Int), v3 = .int .i64 x3_1 ∧ Aside0 (ontimeref43_Valid.l0 kq l0 x3_1 = some r) ∧ Aside0 (kq ≤ k) ∧ Aside0 (Below w.heap.size w w'))
    case atStart => exact ⟨(0), (by first | rfl | (simp; done) | (simp [*]; done)), H', ⟨Nat.le_refl _⟩, ⟨by repeat (first | (with_reducible first | exact HB.out | apply below_alloc | apply pw_below_drewN | apply below_drew1) | exact HB.out)⟩⟩
    case round =>
      clear H'
      try clear c2
      try clear c2b0
      try clear c2b1
      try clear p2
      obtain ⟨x3_1, rfl, HA, HK1, HB⟩ := hrel
      cases gk with
      | zero => exact absurd HA.out (by simp [ontimeref43_Valid.l0])
      | succ k1 =>
        have H := HA.out
        clear HA
        simp only [ontimeref43_Valid.l0] at H
        by_cases c3 : x3_1 < (l0.length : Int)
        · rw [if_pos c3] at H
          have c3b0 : decide (x3_1 < (l0.length : Int)) = true := decide_eq_true c3
          clear c3
          by_cases c4 : 0 ≤ x3_1
          · rw [if_pos c4] at H
            have c4b0 : decide (0 ≤ x3_1) = true := decide_eq_true c4
            clear c4
            have HC5 := Aside0.mk H
            clear H
            have p443 : 0 ≤ (x3_1 : Int) := of_decide_eq_true (by first | (with_reducible assumption) | assumption)
            have q443 : x3_1 < (l0.length : Int) := of_decide_eq_true (by first | (with_reducible assumption) | assumption)
            obtain ⟨ad443, A443_3, c443_3, e443, hx443_0, hx443_1, hx443_2, hx443_3, hl443_3, hi443_3⟩ := at_T93 HR0.out x3_1 p443 q443
            cases e443
            replace hx443_0 := (HB.out.cell (World.block_lt_of_cell? w _ hx443_0)).trans hx443_0
            replace hx443_1 := (HB.out.cell (World.block_lt_of_cell? w _ hx443_1)).trans hx443_1
            replace hx443_2 := (HB.out.cell (World.block_lt_of_cell? w _ hx443_2)).trans hx443_2
            replace hx443_3 := (HB.out.cell (World.block_lt_of_cell? w _ hx443_3)).trans hx443_3
            have HR443_3 := Aside0.mk hi443_3
            have HC443_3 := Aside0.mk hl443_3
            clear hi443_3 hl443_3
            replace p443 := eq_true p443
            replace q443 := eq_true q443
            go_upto_region 7 with (first | ((with_reducible refine gate_dst (N := 4) rfl ?_); (try (refine gate_guard (by rfl) ?_; dsimp only)); refine box_event ?hg (N := 4) ?hd (cs := #[.int .i64 0, .int .i64 0, .int .i64 0, .slice none 0 0]) (t := 93) ?hr ?_; (case hd => rfl); (case hg => rfl); (case hr => first | (go_simp; done) | (go_simp; rfl)); intro gb444 hg w6 hbox hb; have n0_ := Aside0.mk (below_step (by repeat (first | (with_reducible first | exact HB.out | apply below_alloc | apply pw_below_drewN | apply below_drew1) | exact HB.out)) hb); have n1_ := Aside0.mk (hbox); have n2_ := Aside0.mk ((by rw [hg]; exact (below_size (by repeat (first | (with_reducible first | exact HB.out | apply below_alloc | apply pw_below_drewN | apply below_drew1) | exact HB.out))) : w.heap.size ≤ gb444)); have n3_ := Aside0.mk ((by rw [hg]; exact (below_size (by repeat (first | (with_reducible first | exact HB.out | apply below_alloc | apply pw_below_drewN | apply below_drew1) | exact HB.out))) : w.heap.size ≤ gb444)); clear HB; have HB := n0_; have BK444 := n1_; have GW444 := n2_; have GE444 := n3_; clear n0_ n1_ n2_ n3_; clear hb hbox hg; have hcz7_0 : w6.cell? ⟨gb444, 0, none⟩ = some (.int .i64 0) := (blk_cell BK444.out 0).trans rfl; have hcz7_1 : w6.cell? ⟨gb444, 1, none⟩ = some (.int .i64 0) := (blk_cell BK444.out 1).trans rfl; have hcz7_2 : w6.cell? ⟨gb444, 2, none⟩ = some (.int .i64 0) := (blk_cell BK444.out 2).trans rfl; have hcz7_3 : w6.cell? ⟨gb444, 3, none⟩ = some (.slice none 0 0) := (blk_cell BK444.out 3).trans rfl; have hfz7_0 := blk_frozen BK444.out 0; have hfz7_1 := blk_frozen BK444.out 1; have hfz7_2 := blk_frozen BK444.out 2; have hfz7_3 := blk_frozen BK444.out 3))
            (try simp only [Act.put, List.setIfInBounds_toArray, List.set_cons_zero, List.set_cons_succ])
            go_cut [56] (fun v56 wc => ∃ (kq : Nat) (x56_4 : Bool), v56 = .bool x56_4 ∧ Aside0 (ontimeref43_Valid.j1 kq l0 x3_1 x56_4 ((rd_T93 l0 x3_1).f0) ((rd_T93 l0 x3_1).f1) ((rd_T93 l0 x3_1).f2) ((rd_T93 l0 x3_1).f3) = some r) ∧ Aside0 (kq ≤ k1) ∧ Aside0 (wc.heap[gb444]? = some (.cells #[.int .i64 ((rd_T93 l0 x3_1).f0), .int .i64 ((rd_T93 l0 x3_1).f1), .int .i64 ((rd_T93 l0 x3_1).f2), (.slice A443_3 ((rd_T93 l0 x3_1).f3).length c443_3)] 93 (0, 0))) ∧ Aside0 (Below w.heap.size w wc))
            case first =>
              have H := HC5.out
              clear HC5
              by_cases c8 : ((rd_T93 l0 x3_1).f0) < 1
              · rw [if_pos c8] at H
                have c8b0 : decide (((rd_T93 l0 x3_1).f0) < 1) = true := decide_eq_true c8
                clear c8
                (first | rw [c8b0] | (simp only [i64_w, i32_w]; rw [c8b0]) | skip)
                have H' := Aside0.mk H
                clear H
                have hcz9_0 : w6.cell? ⟨gb444, 0, none⟩ = some (.int .i64 0) := (blk_cell BK444.out 0).trans rfl
                have hcz9_1 : w6.cell? ⟨gb444, 1, none⟩ = some (.int .i64 0) := (blk_cell BK444.out 1).trans rfl
                have hcz9_2 : w6.cell? ⟨gb444, 2, none⟩ = some (.int .i64 0) := (blk_cell BK444.out 2).trans rfl
                have hcz9_3 : w6.cell? ⟨gb444, 3, none⟩ = some (.slice none 0 0) := (blk_cell BK444.out 3).trans rfl
                have hfz9_0 := blk_frozen BK444.out 0
                have hfz9_1 := blk_frozen BK444.out 1
                have hfz9_2 := blk_frozen BK444.out 2
                have hfz9_3 := blk_frozen BK444.out 3
                go_wp2
                go_meet
                case rel => exact ⟨_, (true), (by first | rfl | (simp; done) | (simp [*]; done)), H', ⟨by have := HK1.out; first | omega | exact Nat.le_refl _⟩, ⟨by (with_reducible repeat (first | refine blk_drewN ?_ _ | refine blk_drew ?_ | refine blk_alloc ?_ _)); refine blk_put (cs := #[.int .i64 ((rd_T93 l0 x3_1).f0), .int .i64 ((rd_T93 l0 x3_1).f1), .int .i64 ((rd_T93 l0 x3_1).f2), .slice none 0 0]) ?_ 3 _ rfl; (with_reducible repeat (first | refine blk_drewN ?_ _ | refine blk_drew ?_ | refine blk_alloc ?_ _)); refine blk_put (cs := #[.int .i64 ((rd_T93 l0 x3_1).f0), .int .i64 ((rd_T93 l0 x3_1).f1), .int .i64 0, .slice none 0 0]) ?_ 2 _ rfl; (with_reducible repeat (first | refine blk_drewN ?_ _ | refine blk_drew ?_ | refine blk_alloc ?_ _)); refine blk_put (cs := #[.int .i64 ((rd_T93 l0 x3_1).f0), .int .i64 0, .int .i64 0, .slice none 0 0]) ?_ 1 _ rfl; (with_reducible repeat (first | refine blk_drewN ?_ _ | refine blk_drew ?_ | refine blk_alloc ?_ _)); refine blk_put (cs := #[.int .i64 0, .int .i64 0, .int .i64 0, .slice none 0 0]) ?_ 0 _ rfl; (with_reducible repeat (first | refine blk_drewN ?_ _ | refine blk_drew ?_ | refine blk_alloc ?_ _)); exact BK444.out⟩, ⟨by repeat (first | (with_reducible first | exact HB.out | apply below_alloc | apply pw_below_drewN | apply below_drew1 | refine below_set ?_ GE444.out) | exact HB.out)⟩⟩
              · rw [if_neg c8] at H
                have c8b0 : decide (((rd_T93 l0 x3_1).f0) < 1) = false := decide_eq_false c8
                clear c8
                (first | rw [c8b0] | (simp only [i64_w, i32_w]; rw [c8b0]) | skip)
                by_cases c10 : ((rd_T93 l0 x3_1).f0) > 1000
                · rw [if_pos c10] at H
                  have c10b0 : decide (1000 < ((rd_T93 l0 x3_1).f0)) = true := decide_eq_true c10
                  clear c10
                  have H' := Aside0.mk H
                  clear H
                  have hcz11_0 : w6.cell? ⟨gb444, 0, none⟩ = some (.int .i64 0) := (blk_cell BK444.out 0).trans rfl
                  have hcz11_1 : w6.cell? ⟨gb444, 1, none⟩ = some (.int .i64 0) := (blk_cell BK444.out 1).trans rfl
                  have hcz11_2 : w6.cell? ⟨gb444, 2, none⟩ = some (.int .i64 0) := (blk_cell BK444.out 2).trans rfl
                  have hcz11_3 : w6.cell? ⟨gb444, 3, none⟩ = some (.slice none 0 0) := (blk_cell BK444.out 3).trans rfl
                  have hfz11_0 := blk_frozen BK444.out 0
                  have hfz11_1 := blk_frozen BK444.out 1
                  have hfz11_2 := blk_frozen BK444.out 2
                  have hfz11_3 := blk_frozen BK444.out 3
                  go_wp2
                  go_meet
                  case rel => exact ⟨_, (true), (by first | rfl | (simp; done) | (simp [*]; done)), H', ⟨by have := HK1.out; first | omega | exact Nat.le_refl _⟩, ⟨by (with_reducible repeat (first | refine blk_drewN ?_ _ | refine blk_drew ?_ | refine blk_alloc ?_ _)); refine blk_put (cs := #[.int .i64 ((rd_T93 l0 x3_1).f0), .int .i64 ((rd_T93 l0 x3_1).f1), .int .i64 ((rd_T93 l0 x3_1).f2), .slice none 0 0]) ?_ 3 _ rfl; (with_reducible repeat (first | refine blk_drewN ?_ _ | refine blk_drew ?_ | refine blk_alloc ?_ _)); refine blk_put (cs := #[.int .i64 ((rd_T93 l0 x3_1).f0), .int .i64 ((rd_T93 l0 x3_1).f1), .int .i64 0, .slice none 0 0]) ?_ 2 _ rfl; (with_reducible repeat (first | refine blk_drewN ?_ _ | refine blk_drew ?_ | refine blk_alloc ?_ _)); refine blk_put (cs := #[.int .i64 ((rd_T93 l0 x3_1).f0), .int .i64 0, .int .i64 0, .slice none 0 0]) ?_ 1 _ rfl; (with_reducible repeat (first | refine blk_drewN ?_ _ | refine blk_drew ?_ | refine blk_alloc ?_ _)); refine blk_put (cs := #[.int .i64 0, .int .i64 0, .int .i64 0, .slice none 0 0]) ?_ 0 _ rfl; (with_reducible repeat (first | refine blk_drewN ?_ _ | refine blk_drew ?_ | refine blk_alloc ?_ _)); exact BK444.out⟩, ⟨by repeat (first | (with_reducible first | exact HB.out | apply below_alloc | apply pw_below_drewN | apply below_drew1 | refine below_set ?_ GE444.out) | exact HB.out)⟩⟩
                · rw [if_neg c10] at H
                  have c10b0 : decide (1000 < ((rd_T93 l0 x3_1).f0)) = false := decide_eq_false c10
                  clear c10
                  by_cases c12 : ((rd_T93 l0 x3_1).f1) < 1
                  · rw [if_pos c12] at H
                    have c12b0 : decide (((rd_T93 l0 x3_1).f1) < 1) = true := decide_eq_true c12
                    clear c12
                    have H' := Aside0.mk H
                    clear H
                    have hcz13_0 : w6.cell? ⟨gb444, 0, none⟩ = some (.int .i64 0) := (blk_cell BK444.out 0).trans rfl
                    have hcz13_1 : w6.cell? ⟨gb444, 1, none⟩ = some (.int .i64 0) := (blk_cell BK444.out 1).trans rfl
                    have hcz13_2 : w6.cell? ⟨gb444, 2, none⟩ = some (.int .i64 0) := (blk_cell BK444.out 2).trans rfl
                    have hcz13_3 : w6.cell? ⟨gb444, 3, none⟩ = some (.slice none 0 0) := (blk_cell BK444.out 3).trans rfl
                    have hfz13_0 := blk_frozen BK444.out 0
                    have hfz13_1 := blk_frozen BK444.out 1
                    have hfz13_2 := blk_frozen BK444.out 2
                    have hfz13_3 := blk_frozen BK444.out 3
                    go_wp2
                    go_meet
                    case rel => exact ⟨_, (true), (by first | rfl | (simp; done) | (simp [*]; done)), H', ⟨by have := HK1.out; first | omega | exact Nat.le_refl _⟩, ⟨by (with_reducible repeat (first | refine blk_drewN ?_ _ | refine blk_drew ?_ | refine blk_alloc ?_ _)); refine blk_put (cs := #[.int .i64 ((rd_T93 l0 x3_1).f0), .int .i64 ((rd_T93 l0 x3_1).f1), .int .i64 ((rd_T93 l0 x3_1).f2), .slice none 0 0]) ?_ 3 _ rfl; (with_reducible repeat (first | refine blk_drewN ?_ _ | refine blk_drew ?_ | refine blk_alloc ?_ _)); refine blk_put (cs := #[.int .i64 ((rd_T93 l0 x3_1).f0), .int .i64 ((rd_T93 l0 x3_1).f1), .int .i64 0, .slice none 0 0]) ?_ 2 _ rfl; (with_reducible repeat (first | refine blk_drewN ?_ _ | refine blk_drew ?_ | refine blk_alloc ?_ _)); refine blk_put (cs := #[.int .i64 ((rd_T93 l0 x3_1).f0), .int .i64 0, .int .i64 0, .slice none 0 0]) ?_ 1 _ rfl; (with_reducible repeat (first | refine blk_drewN ?_ _ | refine blk_drew ?_ | refine blk_alloc ?_ _)); refine blk_put (cs := #[.int .i64 0, .int .i64 0, .int .i64 0, .slice none 0 0]) ?_ 0 _ rfl; (with_reducible repeat (first | refine blk_drewN ?_ _ | refine blk_drew ?_ | refine blk_alloc ?_ _)); exact BK444.out⟩, ⟨by repeat (first | (with_reducible first | exact HB.out | apply below_alloc | apply pw_below_drewN | apply below_drew1 | refine below_set ?_ GE444.out) | exact HB.out)⟩⟩
                  · rw [if_neg c12] at H
                    have c12b0 : decide (((rd_T93 l0 x3_1).f1) < 1) = false := decide_eq_false c12
                    clear c12
                    by_cases c14 : ((rd_T93 l0 x3_1).f1) > 1000
                    · rw [if_pos c14] at H
                      have c14b0 : decide (1000 < ((rd_T93 l0 x3_1).f1)) = true := decide_eq_true c14
                      clear c14
                      have H' := Aside0.mk H
                      clear H
                      have hcz15_0 : w6.cell? ⟨gb444, 0, none⟩ = some (.int .i64 0) := (blk_cell BK444.out 0).trans rfl
                      have hcz15_1 : w6.cell? ⟨gb444, 1, none⟩ = some (.int .i64 0) := (blk_cell BK444.out 1).trans rfl
                      have hcz15_2 : w6.cell? ⟨gb444, 2, none⟩ = some (.int .i64 0) := (blk_cell BK444.out 2).trans rfl
                      have hcz15_3 : w6.cell? ⟨gb444, 3, none⟩ = some (.slice none 0 0) := (blk_cell BK444.out 3).trans rfl
                      have hfz15_0 := blk_frozen BK444.out 0
                      have hfz15_1 := blk_frozen BK444.out 1
                      have hfz15_2 := blk_frozen BK444.out 2
                      have hfz15_3 := blk_frozen BK444.out 3
                      go_wp2
                      go_meet
                      case rel => exact ⟨_, (true), (by first | rfl | (simp; done) | (simp [*]; done)), H', ⟨by have := HK1.out; first | omega | exact Nat.le_refl _⟩, ⟨by (with_reducible repeat (first | refine blk_drewN ?_ _ | refine blk_drew ?_ | refine blk_alloc ?_ _)); refine blk_put (cs := #[.int .i64 ((rd_T93 l0 x3_1).f0), .int .i64 ((rd_T93 l0 x3_1).f1), .int .i64 ((rd_T93 l0 x3_1).f2), .slice none 0 0]) ?_ 3 _ rfl; (with_reducible repeat (first | refine blk_drewN ?_ _ | refine blk_drew ?_ | refine blk_alloc ?_ _)); refine blk_put (cs := #[.int .i64 ((rd_T93 l0 x3_1).f0), .int .i64 ((rd_T93 l0 x3_1).f1), .int .i64 0, .slice none 0 0]) ?_ 2 _ rfl; (with_reducible repeat (first | refine blk_drewN ?_ _ | refine blk_drew ?_ | refine blk_alloc ?_ _)); refine blk_put (cs := #[.int .i64 ((rd_T93 l0 x3_1).f0), .int .i64 0, .int .i64 0, .slice none 0 0]) ?_ 1 _ rfl; (with_reducible repeat (first | refine blk_drewN ?_ _ | refine blk_drew ?_ | refine blk_alloc ?_ _)); refine blk_put (cs := #[.int .i64 0, .int .i64 0, .int .i64 0, .slice none 0 0]) ?_ 0 _ rfl; (with_reducible repeat (first | refine blk_drewN ?_ _ | refine blk_drew ?_ | refine blk_alloc ?_ _)); exact BK444.out⟩, ⟨by repeat (first | (with_reducible first | exact HB.out | apply below_alloc | apply pw_below_drewN | apply below_drew1 | refine below_set ?_ GE444.out) | exact HB.out)⟩⟩
                    · rw [if_neg c14] at H
                      have c14b0 : decide (1000 < ((rd_T93 l0 x3_1).f1)) = false := decide_eq_false c14
                      clear c14
                      by_cases c16 : ((rd_T93 l0 x3_1).f2) < 1
                      · rw [if_pos c16] at H
                        have c16b0 : decide (((rd_T93 l0 x3_1).f2) < 1) = true := decide_eq_true c16
                        clear c16
                        have H' := Aside0.mk H
                        clear H
                        have hcz17_0 : w6.cell? ⟨gb444, 0, none⟩ = some (.int .i64 0) := (blk_cell BK444.out 0).trans rfl
                        have hcz17_1 : w6.cell? ⟨gb444, 1, none⟩ = some (.int .i64 0) := (blk_cell BK444.out 1).trans rfl
                        have hcz17_2 : w6.cell? ⟨gb444, 2, none⟩ = some (.int .i64 0) := (blk_cell BK444.out 2).trans rfl
                        have hcz17_3 : w6.cell? ⟨gb444, 3, none⟩ = some (.slice none 0 0) := (blk_cell BK444.out 3).trans rfl
                        have hfz17_0 := blk_frozen BK444.out 0
                        have hfz17_1 := blk_frozen BK444.out 1
                        have hfz17_2 := blk_frozen BK444.out 2
                        have hfz17_3 := blk_frozen BK444.out 3
                        go_wp2
                        go_meet
                        case rel => exact ⟨_, (true), (by first | rfl | (simp; done) | (simp [*]; done)), H', ⟨by have := HK1.out; first | omega | exact Nat.le_refl _⟩, ⟨by (with_reducible repeat (first | refine blk_drewN ?_ _ | refine blk_drew ?_ | refine blk_alloc ?_ _)); refine blk_put (cs := #[.int .i64 ((rd_T93 l0 x3_1).f0), .int .i64 ((rd_T93 l0 x3_1).f1), .int .i64 ((rd_T93 l0 x3_1).f2), .slice none 0 0]) ?_ 3 _ rfl; (with_reducible repeat (first | refine blk_drewN ?_ _ | refine blk_drew ?_ | refine blk_alloc ?_ _)); refine blk_put (cs := #[.int .i64 ((rd_T93 l0 x3_1).f0), .int .i64 ((rd_T93 l0 x3_1).f1), .int .i64 0, .slice none 0 0]) ?_ 2 _ rfl; (with_reducible repeat (first | refine blk_drewN ?_ _ | refine blk_drew ?_ | refine blk_alloc ?_ _)); refine blk_put (cs := #[.int .i64 ((rd_T93 l0 x3_1).f0), .int .i64 0, .int .i64 0, .slice none 0 0]) ?_ 1 _ rfl; (with_reducible repeat (first | refine blk_drewN ?_ _ | refine blk_drew ?_ | refine blk_alloc ?_ _)); refine blk_put (cs := #[.int .i64 0, .int .i64 0, .int .i64 0, .slice none 0 0]) ?_ 0 _ rfl; (with_reducible repeat (first | refine blk_drewN ?_ _ | refine blk_drew ?_ | refine blk_alloc ?_ _)); exact BK444.out⟩, ⟨by repeat (first | (with_reducible first | exact HB.out | apply below_alloc | apply pw_below_drewN | apply below_drew1 | refine below_set ?_ GE444.out) | exact HB.out)⟩⟩
                      · rw [if_neg c16] at H
                        have c16b0 : decide (((rd_T93 l0 x3_1).f2) < 1) = false := decide_eq_false c16
                        clear c16
                        by_cases c18 : ((rd_T93 l0 x3_1).f2) > ((rd_T93 l0 x3_1).f1)
                        · rw [if_pos c18] at H
                          have c18b0 : decide (((rd_T93 l0 x3_1).f1) < ((rd_T93 l0 x3_1).f2)) = true := decide_eq_true c18
                          clear c18
                          have H' := Aside0.mk H
                          clear H
                          have hcz19_0 : w6.cell? ⟨gb444, 0, none⟩ = some (.int .i64 0) := (blk_cell BK444.out 0).trans rfl
                          have hcz19_1 : w6.cell? ⟨gb444, 1, none⟩ = some (.int .i64 0) := (blk_cell BK444.out 1).trans rfl
                          have hcz19_2 : w6.cell? ⟨gb444, 2, none⟩ = some (.int .i64 0) := (blk_cell BK444.out 2).trans rfl
                          have hcz19_3 : w6.cell? ⟨gb444, 3, none⟩ = some (.slice none 0 0) := (blk_cell BK444.out 3).trans rfl
                          have hfz19_0 := blk_frozen BK444.out 0
                          have hfz19_1 := blk_frozen BK444.out 1
                          have hfz19_2 := blk_frozen BK444.out 2
                          have hfz19_3 := blk_frozen BK444.out 3
                          go_wp2
                          go_meet
                          case rel => exact ⟨_, (true), (by first | rfl | (simp; done) | (simp [*]; done)), H', ⟨by have := HK1.out; first | omega | exact Nat.le_refl _⟩, ⟨by (with_reducible repeat (first | refine blk_drewN ?_ _ | refine blk_drew ?_ | refine blk_alloc ?_ _)); refine blk_put (cs := #[.int .i64 ((rd_T93 l0 x3_1).f0), .int .i64 ((rd_T93 l0 x3_1).f1), .int .i64 ((rd_T93 l0 x3_1).f2), .slice none 0 0]) ?_ 3 _ rfl; (with_reducible repeat (first | refine blk_drewN ?_ _ | refine blk_drew ?_ | refine blk_alloc ?_ _)); refine blk_put (cs := #[.int .i64 ((rd_T93 l0 x3_1).f0), .int .i64 ((rd_T93 l0 x3_1).f1), .int .i64 0, .slice none 0 0]) ?_ 2 _ rfl; (with_reducible repeat (first | refine blk_drewN ?_ _ | refine blk_drew ?_ | refine blk_alloc ?_ _)); refine blk_put (cs := #[.int .i64 ((rd_T93 l0 x3_1).f0), .int .i64 0, .int .i64 0, .slice none 0 0]) ?_ 1 _ rfl; (with_reducible repeat (first | refine blk_drewN ?_ _ | refine blk_drew ?_ | refine blk_alloc ?_ _)); refine blk_put (cs := #[.int .i64 0, .int .i64 0, .int .i64 0, .slice none 0 0]) ?_ 0 _ rfl; (with_reducible repeat (first | refine blk_drewN ?_ _ | refine blk_drew ?_ | refine blk_alloc ?_ _)); exact BK444.out⟩, ⟨by repeat (first | (with_reducible first | exact HB.out | apply below_alloc | apply pw_below_drewN | apply below_drew1 | refine below_set ?_ GE444.out) | exact HB.out)⟩⟩
                        · rw [if_neg c18] at H
                          have c18b0 : decide (((rd_T93 l0 x3_1).f1) < ((rd_T93 l0 x3_1).f2)) = false := decide_eq_false c18
                          clear c18
                          have H' := Aside0.mk H
                          clear H
                          have hcz20_0 : w6.cell? ⟨gb444, 0, none⟩ = some (.int .i64 0) := (blk_cell BK444.out 0).trans rfl
                          have hcz20_1 : w6.cell? ⟨gb444, 1, none⟩ = some (.int .i64 0) := (blk_cell BK444.out 1).trans rfl
                          have hcz20_2 : w6.cell? ⟨gb444, 2, none⟩ = some (.int .i64 0) := (blk_cell BK444.out 2).trans rfl
                          have hcz20_3 : w6.cell? ⟨gb444, 3, none⟩ = some (.slice none 0 0) := (blk_cell BK444.out 3).trans rfl
                          have hfz20_0 := blk_frozen BK444.out 0
                          have hfz20_1 := blk_frozen BK444.out 1
                          have hfz20_2 := blk_frozen BK444.out 2
                          have hfz20_3 := blk_frozen BK444.out 3
                          go_wp2
                          go_meet
                          case rel => exact ⟨_, (decide ((((rd_T93 l0 x3_1).f3).length : Int) > 8)), (by first | rfl | (simp; done) | (simp [*]; done)), H', ⟨by have := HK1.out; first | omega | exact Nat.le_refl _⟩, ⟨by (with_reducible repeat (first | refine blk_drewN ?_ _ | refine blk_drew ?_ | refine blk_alloc ?_ _)); refine blk_put (cs := #[.int .i64 ((rd_T93 l0 x3_1).f0), .int .i64 ((rd_T93 l0 x3_1).f1), .int .i64 ((rd_T93 l0 x3_1).f2), .slice none 0 0]) ?_ 3 _ rfl; (with_reducible repeat (first | refine blk_drewN ?_ _ | refine blk_drew ?_ | refine blk_alloc ?_ _)); refine blk_put (cs := #[.int .i64 ((rd_T93 l0 x3_1).f0), .int .i64 ((rd_T93 l0 x3_1).f1), .int .i64 0, .slice none 0 0]) ?_ 2 _ rfl; (with_reducible repeat (first | refine blk_drewN ?_ _ | refine blk_drew ?_ | refine blk_alloc ?_ _)); refine blk_put (cs := #[.int .i64 ((rd_T93 l0 x3_1).f0), .int .i64 0, .int .i64 0, .slice none 0 0]) ?_ 1 _ rfl; (with_reducible repeat (first | refine blk_drewN ?_ _ | refine blk_drew ?_ | refine blk_alloc ?_ _)); refine blk_put (cs := #[.int .i64 0, .int .i64 0, .int .i64 0, .slice none 0 0]) ?_ 0 _ rfl; (with_reducible repeat (first | refine blk_drewN ?_ _ | refine blk_drew ?_ | refine blk_alloc ?_ _)); exact BK444.out⟩, ⟨by repeat (first | (with_reducible first | exact HB.out | apply below_alloc | apply pw_below_drewN | apply below_drew1 | refine below_set ?_ GE444.out) | exact HB.out)⟩⟩
            case rest =>
              clear HC5
              try clear c1
              try clear c2
              try clear c2b0
              try clear c2b1
              try clear p2
              try clear c3
              try clear c3b0
              try clear c4
              try clear c4b0
              try clear p4
              try clear q4
              try clear hx4
              try clear c8
              try clear c8b0
              try clear c10
              try clear c10b0
              try clear c12
              try clear c12b0
              try clear c14
              try clear c14b0
              try clear c16
              try clear c16b0
              try clear c18
              try clear c18b0
              try clear hcz11_0
              try clear hcz11_1
              try clear hcz11_2
              try clear hcz11_3
              try clear hcz13_0
              try clear hcz13_1
              try clear hcz13_2
              try clear hcz13_3
              try clear hcz15_0
              try clear hcz15_1
              try clear hcz15_2
              try clear hcz15_3
              try clear hcz17_0
              try clear hcz17_1
              try clear hcz17_2
              try clear hcz17_3
              try clear hcz19_0
              try clear hcz19_1
              try clear hcz19_2
              try clear hcz19_3
              try clear hcz20_0
              try clear hcz20_1
              try clear hcz20_2
              try clear hcz20_3
              try clear hcz7_0
              try clear hcz7_1
              try clear hcz7_2
              try clear hcz7_3
              try clear hcz9_0
              try clear hcz9_1
              try clear hcz9_2
              try clear hcz9_3
              try clear hfz11_0
              try clear hfz11_1
              try clear hfz11_2
              try clear hfz11_3
              try clear hfz13_0
              try clear hfz13_1
              try clear hfz13_2
              try clear hfz13_3
              try clear hfz15_0
              try clear hfz15_1
              try clear hfz15_2
              try clear hfz15_3
              try clear hfz17_0
              try clear hfz17_1
              try clear hfz17_2
              try clear hfz17_3
              try clear hfz19_0
              try clear hfz19_1
              try clear hfz19_2
              try clear hfz19_3
              try clear hfz20_0
              try clear hfz20_1
              try clear hfz20_2
              try clear hfz20_3
              try clear hfz7_0
              try clear hfz7_1
              try clear hfz7_2
              try clear hfz7_3
              try clear hfz9_0
              try clear hfz9_1
              try clear hfz9_2
              try clear hfz9_3
              try clear hx443_0
              try clear hx443_1
              try clear hx443_2
              try clear hx443_3
              try clear p2
              try clear p443
              try clear q443
              obtain ⟨kq, x56_4, rfl, HA, HJ4, BK444, HB⟩ := hcut
              cases kq with
              | zero => exact absurd HA.out (by simp [ontimeref43_Valid.j1])
              | succ kj4 =>
                have H := HA.out
                clear HA
                simp only [ontimeref43_Valid.j1] at H
                by_cases c21 : x56_4 = true
                · subst c21
                  have H1 : (some false) = some r := by rw [if_pos rfl] at H; exact H
                  clear H
                  have H := H1
                  clear H1
                  obtain rfl := Option.some.inj H
                  go_wp2
                  go_ret
                  exact ⟨by first | rfl | (simp [errW_none, errW_some] <;> rfl) | (simp [*, errW_none, errW_some] <;> rfl), by repeat (first | (with_reducible first | exact HB.out | apply below_alloc | apply pw_below_drewN | apply below_drew1 | refine below_set ?_ GE444.out) | exact HB.out)⟩
                · replace c21 := Bool.eq_false_iff.mpr c21
                  subst c21
                  have H1 : (ontimeref43_Valid.l1 kj4 l0 x3_1 0 0 ((rd_T93 l0 x3_1).f0) ((rd_T93 l0 x3_1).f1) ((rd_T93 l0 x3_1).f2) ((rd_T93 l0 x3_1).f3)) = some r := by rw [if_neg (show ¬ (false = true) by decide)] at H; exact H
                  clear H
                  have H := H1
                  clear H1
                  have H' := Aside0.mk H
                  clear H
                  go_wp2
                  go_loopg [5, 6] kj4 (fun kq v5 v6 w' => ∃ (x5_3 : Int) (x6_3 : Int), v5 = .int .i64 x5_3 ∧ v6 = .int .i64 x6_3 ∧ Aside0 (ontimeref43_Valid.l1 kq l0 x3_1 x5_3 x6_3 ((rd_T93 l0 x3_1).f0) ((rd_T93 l0 x3_1).f1) ((rd_T93 l0 x3_1).f2) ((rd_T93 l0 x3_1).f3) = some r) ∧ Aside0 (kq ≤ kj4) ∧ Aside0 (w'.heap[gb444]? = some (.cells #[.int .i64 ((rd_T93 l0 x3_1).f0), .int .i64 ((rd_T93 l0 x3_1).f1), .int .i64 ((rd_T93 l0 x3_1).f2), (.slice A443_3 ((rd_T93 l0 x3_1).f3).length c443_3)] 93 (0, 0))) ∧ Aside0 (Below w.heap.size w w'))
                  case atStart => exact ⟨(0), (0), (by first | rfl | (simp; done) | (simp [*]; done)), (by first | rfl | (simp; done) | (simp [*]; done)), H', ⟨Nat.le_refl _⟩, ⟨by (with_reducible repeat (first | refine blk_drewN ?_ _ | refine blk_drew ?_ | refine blk_alloc ?_ _)); exact BK444.out⟩, ⟨by repeat (first | (with_reducible first | exact HB.out | apply below_alloc | apply pw_below_drewN | apply below_drew1 | refine below_set ?_ GE444.out) | exact HB.out)⟩⟩
                  case round =>
                    clear H'
                    try clear c1
                    try clear c2
                    try clear c2b0
                    try clear c2b1
                    try clear p2
                    try clear c3
                    try clear c3b0
                    try clear c4
                    try clear c4b0
                    try clear p4
                    try clear q4
                    try clear hx4
                    try clear c8
                    try clear c8b0
                    try clear c10
                    try clear c10b0
                    try clear c12
                    try clear c12b0
                    try clear c14
                    try clear c14b0
                    try clear c16
                    try clear c16b0
                    try clear c18
                    try clear c18b0
                    try clear c21
                    try clear hcz11_0
                    try clear hcz11_1
                    try clear hcz11_2
                    try clear hcz11_3
                    try clear hcz13_0
                    try clear hcz13_1
                    try clear hcz13_2
                    try clear hcz13_3
                    try clear hcz15_0
                    try clear hcz15_1
                    try clear hcz15_2
                    try clear hcz15_3
                    try clear hcz17_0
                    try clear hcz17_1
                    try clear hcz17_2
                    try clear hcz17_3
                    try clear hcz19_0
                    try clear hcz19_1
                    try clear hcz19_2
                    try clear hcz19_3
                    try clear hcz20_0
                    try clear hcz20_1
                    try clear hcz20_2
                    try clear hcz20_3
                    try clear hcz7_0
                    try clear hcz7_1
                    try clear hcz7_2
                    try clear hcz7_3
                    try clear hcz9_0
                    try clear hcz9_1
                    try clear hcz9_2
                    try clear hcz9_3
                    try clear hfz11_0
                    try clear hfz11_1
                    try clear hfz11_2
                    try clear hfz11_3
                    try clear hfz13_0
                    try clear hfz13_1
                    try clear hfz13_2
                    try clear hfz13_3
                    try clear hfz15_0
                    try clear hfz15_1
                    try clear hfz15_2
                    try clear hfz15_3
                    try clear hfz17_0
                    try clear hfz17_1
                    try clear hfz17_2
                    try clear hfz17_3
                    try clear hfz19_0
                    try clear hfz19_1
                    try clear hfz19_2
                    try clear hfz19_3
                    try clear hfz20_0
                    try clear hfz20_1
                    try clear hfz20_2
                    try clear hfz20_3
                    try clear hfz7_0
                    try clear hfz7_1
                    try clear hfz7_2
                    try clear hfz7_3
                    try clear hfz9_0
                    try clear hfz9_1
                    try clear hfz9_2
                    try clear hfz9_3
                    try clear hx443_0
                    try clear hx443_1
                    try clear hx443_2
                    try clear hx443_3
                    try clear p2
                    try clear p4
                    try clear p443
                    try clear q4
                    try clear q443
                    obtain ⟨x5_3, x6_3, rfl, rfl, HA, HK3, BK444, HB⟩ := hrel
                    cases gk with
                    | zero => exact absurd HA.out (by simp [ontimeref43_Valid.l1])
                    | succ k3 =>
                      have H := HA.out
                      clear HA
                      simp only [ontimeref43_Valid.l1] at H
                      by_cases c22 : x6_3 < (((rd_T93 l0 x3_1).f3).length : Int)
                      · rw [if_pos c22] at H
                        have c22b0 : decide (x6_3 < (((rd_T93 l0 x3_1).f3).length : Int)) = true := decide_eq_true c22
                        clear c22
                        by_cases c23 : 0 ≤ x6_3
                        · rw [if_pos c23] at H
                          have c23b0 : decide (0 ≤ x6_3) = true := decide_eq_true c23
                          clear c23
                          by_cases c24 : ((rd_T94 ((rd_T93 l0 x3_1).f3) x6_3).f1) < x5_3
                          · rw [if_pos c24] at H
                            have c24b0 : decide (((rd_T94 ((rd_T93 l0 x3_1).f3) x6_3).f1) < x5_3) = true := decide_eq_true c24
                            clear c24
                            obtain rfl := Option.some.inj H
                            have hcz25_0 : wr.cell? ⟨gb444, 0, none⟩ = some (.int .i64 ((rd_T93 l0 x3_1).f0)) := (blk_cell BK444.out 0).trans rfl
                            have hcz25_1 : wr.cell? ⟨gb444, 1, none⟩ = some (.int .i64 ((rd_T93 l0 x3_1).f1)) := (blk_cell BK444.out 1).trans rfl
                            have hcz25_2 : wr.cell? ⟨gb444, 2, none⟩ = some (.int .i64 ((rd_T93 l0 x3_1).f2)) := (blk_cell BK444.out 2).trans rfl
                            have hcz25_3 : wr.cell? ⟨gb444, 3, none⟩ = some (.slice A443_3 ((rd_T93 l0 x3_1).f3).length c443_3) := (blk_cell BK444.out 3).trans rfl
                            have hfz25_0 := blk_frozen BK444.out 0
                            have hfz25_1 := blk_frozen BK444.out 1
                            have hfz25_2 := blk_frozen BK444.out 2
                            have hfz25_3 := blk_frozen BK444.out 3
                            have p445 : 0 ≤ (x6_3 : Int) := of_decide_eq_true (by first | (with_reducible assumption) | assumption)
                            have q445 : x6_3 < (((rd_T93 l0 x3_1).f3).length : Int) := of_decide_eq_true (by first | (with_reducible assumption) | assumption)
                            obtain ⟨ad445, e445, hx445_0, hx445_1, hx445_2⟩ := at_T94 HR443_3.out x6_3 p445 q445
                            cases e445
                            replace hx445_0 := (HB.out.cell (World.block_lt_of_cell? w _ hx445_0)).trans hx445_0
                            replace hx445_1 := (HB.out.cell (World.block_lt_of_cell? w _ hx445_1)).trans hx445_1
                            replace hx445_2 := (HB.out.cell (World.block_lt_of_cell? w _ hx445_2)).trans hx445_2
                            replace p445 := eq_true p445
                            replace q445 := eq_true q445
                            go_wp2_with (first | ((with_reducible refine gate_dst (N := 7) rfl ?_); (try (refine gate_guard (by rfl) ?_; dsimp only)); refine box_event ?hg (N := 7) ?hd (cs := #[.int .i64 0, .int .i64 0, .int .i64 0]) (t := 94) ?hr ?_; (case hd => rfl); (case hg => rfl); (case hr => first | (go_simp; done) | (go_simp; rfl)); intro gb446 hg w26 hbox hb; have n0_ := Aside0.mk (blk_below (g := gb444) (o := .cells #[.int .i64 ((rd_T93 l0 x3_1).f0), .int .i64 ((rd_T93 l0 x3_1).f1), .int .i64 ((rd_T93 l0 x3_1).f2), .slice (some ad445) ((rd_T93 l0 x3_1).f3).length c443_3] 93 (0, 0)) (by (with_reducible repeat (first | refine blk_drewN ?_ _ | refine blk_drew ?_ | refine blk_alloc ?_ _)); exact BK444.out) hb); have n1_ := Aside0.mk (below_step (by repeat (first | (with_reducible first | exact HB.out | apply below_alloc | apply pw_below_drewN | apply below_drew1 | refine below_set ?_ GE444.out) | exact HB.out)) hb); have n2_ := Aside0.mk (hbox); have n3_ := Aside0.mk ((by rw [hg]; exact (below_size (by repeat (first | (with_reducible first | exact HB.out | apply below_alloc | apply pw_below_drewN | apply below_drew1 | refine below_set ?_ GE444.out) | exact HB.out))) : w.heap.size ≤ gb446)); have n4_ := Aside0.mk ((by rw [hg]; exact (below_size (by repeat (first | (with_reducible first | exact HB.out | apply below_alloc | apply pw_below_drewN | apply below_drew1 | refine below_set ?_ GE444.out) | exact HB.out))) : w.heap.size ≤ gb446)); have n5_ := Aside0.mk ((by rw [hg]; exact Nat.ne_of_lt (blk_lt (g := gb444) (o := .cells #[.int .i64 ((rd_T93 l0 x3_1).f0), .int .i64 ((rd_T93 l0 x3_1).f1), .int .i64 ((rd_T93 l0 x3_1).f2), .slice (some ad445) ((rd_T93 l0 x3_1).f3).length c443_3] 93 (0, 0)) (by (with_reducible repeat (first | refine blk_drewN ?_ _ | refine blk_drew ?_ | refine blk_alloc ?_ _)); exact BK444.out)) : gb444 ≠ gb446)); have n6_ := Aside0.mk ((by rw [hg]; exact Nat.ne_of_gt (blk_lt (g := gb444) (o := .cells #[.int .i64 ((rd_T93 l0 x3_1).f0), .int .i64 ((rd_T93 l0 x3_1).f1), .int .i64 ((rd_T93 l0 x3_1).f2), .slice (some ad445) ((rd_T93 l0 x3_1).f3).length c443_3] 93 (0, 0)) (by (with_reducible repeat (first | refine blk_drewN ?_ _ | refine blk_drew ?_ | refine blk_alloc ?_ _)); exact BK444.out)) : gb446 ≠ gb444)); clear BK444; clear HB; have BK444 := n0_; have HB := n1_; have BK446 := n2_; have GW446 := n3_; have GE446 := n4_; have NB444_446 := n5_; have NB446_444 := n6_; clear n0_ n1_ n2_ n3_ n4_ n5_ n6_; clear hb hbox hg; have hnb27 := NB446_444.out; have hnc27 := NB444_446.out; have hcz28_0 : w26.cell? ⟨gb446, 0, none⟩ = some (.int .i64 0) := (blk_cell BK446.out 0).trans rfl; have hcz28_1 : w26.cell? ⟨gb446, 1, none⟩ = some (.int .i64 0) := (blk_cell BK446.out 1).trans rfl; have hcz28_2 : w26.cell? ⟨gb446, 2, none⟩ = some (.int .i64 0) := (blk_cell BK446.out 2).trans rfl; have hfz28_0 := blk_frozen BK446.out 0; have hfz28_1 := blk_frozen BK446.out 1; have hfz28_2 := blk_frozen BK446.out 2))
                            go_ret
                            exact ⟨by first | rfl | (simp [errW_none, errW_some] <;> rfl) | (simp [*, errW_none, errW_some] <;> rfl), by repeat (first | (with_reducible first | exact HB.out | apply below_alloc | apply pw_below_drewN | apply below_drew1 | refine below_set ?_ GE444.out | refine below_set ?_ GE446.out) | exact HB.out)⟩
                          · rw [if_neg c24] at H
                            have c24b0 : decide (((rd_T94 ((rd_T93 l0 x3_1).f3) x6_3).f1) < x5_3) = false := decide_eq_false c24
                            clear c24
                            by_cases c29 : ((rd_T94 ((rd_T93 l0 x3_1).f3) x6_3).f2) ≤ ((rd_T94 ((rd_T93 l0 x3_1).f3) x6_3).f1)
                            · rw [if_pos c29] at H
                              have c29b0 : decide (((rd_T94 ((rd_T93 l0 x3_1).f3) x6_3).f2) ≤ ((rd_T94 ((rd_T93 l0 x3_1).f3) x6_3).f1)) = true := decide_eq_true c29
                              clear c29
                              obtain rfl := Option.some.inj H
                              have hcz30_0 : wr.cell? ⟨gb444, 0, none⟩ = some (.int .i64 ((rd_T93 l0 x3_1).f0)) := (blk_cell BK444.out 0).trans rfl
                              have hcz30_1 : wr.cell? ⟨gb444, 1, none⟩ = some (.int .i64 ((rd_T93 l0 x3_1).f1)) := (blk_cell BK444.out 1).trans rfl
                              have hcz30_2 : wr.cell? ⟨gb444, 2, none⟩ = some (.int .i64 ((rd_T93 l0 x3_1).f2)) := (blk_cell BK444.out 2).trans rfl
                              have hcz30_3 : wr.cell? ⟨gb444, 3, none⟩ = some (.slice A443_3 ((rd_T93 l0 x3_1).f3).length c443_3) := (blk_cell BK444.out 3).trans rfl
                              have hfz30_0 := blk_frozen BK444.out 0
                              have hfz30_1 := blk_frozen BK444.out 1
                              have hfz30_2 := blk_frozen BK444.out 2
                              have hfz30_3 := blk_frozen BK444.out 3
                              have p445 : 0 ≤ (x6_3 : Int) := of_decide_eq_true (by first | (with_reducible assumption) | assumption)
                              have q445 : x6_3 < (((rd_T93 l0 x3_1).f3).length : Int) := of_decide_eq_true (by first | (with_reducible assumption) | assumption)
                              obtain ⟨ad445, e445, hx445_0, hx445_1, hx445_2⟩ := at_T94 HR443_3.out x6_3 p445 q445
                              cases e445
                              replace hx445_0 := (HB.out.cell (World.block_lt_of_cell? w _ hx445_0)).trans hx445_0
                              replace hx445_1 := (HB.out.cell (World.block_lt_of_cell? w _ hx445_1)).trans hx445_1
                              replace hx445_2 := (HB.out.cell (World.block_lt_of_cell? w _ hx445_2)).trans hx445_2
                              replace p445 := eq_true p445
                              replace q445 := eq_true q445
                              go_wp2_with (first | ((with_reducible refine gate_dst (N := 7) rfl ?_); (try (refine gate_guard (by rfl) ?_; dsimp only)); refine box_event ?hg (N := 7) ?hd (cs := #[.int .i64 0, .int .i64 0, .int .i64 0]) (t := 94) ?hr ?_; (case hd => rfl); (case hg => rfl); (case hr => first | (go_simp; done) | (go_simp; rfl)); intro gb446 hg w31 hbox hb; have n0_ := Aside0.mk (blk_below (g := gb444) (o := .cells #[.int .i64 ((rd_T93 l0 x3_1).f0), .int .i64 ((rd_T93 l0 x3_1).f1), .int .i64 ((rd_T93 l0 x3_1).f2), .slice (some ad445) ((rd_T93 l0 x3_1).f3).length c443_3] 93 (0, 0)) (by (with_reducible repeat (first | refine blk_drewN ?_ _ | refine blk_drew ?_ | refine blk_alloc ?_ _)); exact BK444.out) hb); have n1_ := Aside0.mk (below_step (by repeat (first | (with_reducible first | exact HB.out | apply below_alloc | apply pw_below_drewN | apply below_drew1 | refine below_set ?_ GE444.out) | exact HB.out)) hb); have n2_ := Aside0.mk (hbox); have n3_ := Aside0.mk ((by rw [hg]; exact (below_size (by repeat (first | (with_reducible first | exact HB.out | apply below_alloc | apply pw_below_drewN | apply below_drew1 | refine below_set ?_ GE444.out) | exact HB.out))) : w.heap.size ≤ gb446)); have n4_ := Aside0.mk ((by rw [hg]; exact (below_size (by repeat (first | (with_reducible first | exact HB.out | apply below_alloc | apply pw_below_drewN | apply below_drew1 | refine below_set ?_ GE444.out) | exact HB.out))) : w.heap.size ≤ gb446)); have n5_ := Aside0.mk ((by rw [hg]; exact Nat.ne_of_lt (blk_lt (g := gb444) (o := .cells #[.int .i64 ((rd_T93 l0 x3_1).f0), .int .i64 ((rd_T93 l0 x3_1).f1), .int .i64 ((rd_T93 l0 x3_1).f2), .slice (some ad445) ((rd_T93 l0 x3_1).f3).length c443_3] 93 (0, 0)) (by (with_reducible repeat (first | refine blk_drewN ?_ _ | refine blk_drew ?_ | refine blk_alloc ?_ _)); exact BK444.out)) : gb444 ≠ gb446)); have n6_ := Aside0.mk ((by rw [hg]; exact Nat.ne_of_gt (blk_lt (g := gb444) (o := .cells #[.int .i64 ((rd_T93 l0 x3_1).f0), .int .i64 ((rd_T93 l0 x3_1).f1), .int .i64 ((rd_T93 l0 x3_1).f2), .slice (some ad445) ((rd_T93 l0 x3_1).f3).length c443_3] 93 (0, 0)) (by (with_reducible repeat (first | refine blk_drewN ?_ _ | refine blk_drew ?_ | refine blk_alloc ?_ _)); exact BK444.out)) : gb446 ≠ gb444)); clear BK444; clear HB; have BK444 := n0_; have HB := n1_; have BK446 := n2_; have GW446 := n3_; have GE446 := n4_; have NB444_446 := n5_; have NB446_444 := n6_; clear n0_ n1_ n2_ n3_ n4_ n5_ n6_; clear hb hbox hg; have hnb32 := NB446_444.out; have hnc32 := NB444_446.out; have hcz33_0 : w31.cell? ⟨gb446, 0, none⟩ = some (.int .i64 0) := (blk_cell BK446.out 0).trans rfl; have hcz33_1 : w31.cell? ⟨gb446, 1, none⟩ = some (.int .i64 0) := (blk_cell BK446.out 1).trans rfl; have hcz33_2 : w31.cell? ⟨gb446, 2, none⟩ = some (.int .i64 0) := (blk_cell BK446.out 2).trans rfl; have hfz33_0 := blk_frozen BK446.out 0; have hfz33_1 := blk_frozen BK446.out 1; have hfz33_2 := blk_frozen BK446.out 2))
                              go_ret
                              exact ⟨by first | rfl | (simp [errW_none, errW_some] <;> rfl) | (simp [*, errW_none, errW_some] <;> rfl), by repeat (first | (with_reducible first | exact HB.out | apply below_alloc | apply pw_below_drewN | apply below_drew1 | refine below_set ?_ GE444.out | refine below_set ?_ GE446.out) | exact HB.out)⟩
                            · rw [if_neg c29] at H
                              have c29b0 : decide (((rd_T94 ((rd_T93 l0 x3_1).f3) x6_3).f2) ≤ ((rd_T94 ((rd_T93 l0 x3_1).f3) x6_3).f1)) = false := decide_eq_false c29
                              clear c29
                              by_cases c34 : ((rd_T94 ((rd_T93 l0 x3_1).f3) x6_3).f2) > ((rd_T93 l0 x3_1).f0)
                              · rw [if_pos c34] at H
                                have c34b0 : decide (((rd_T93 l0 x3_1).f0) < ((rd_T94 ((rd_T93 l0 x3_1).f3) x6_3).f2)) = true := decide_eq_true c34
                                clear c34
                                obtain rfl := Option.some.inj H
                                have hcz35_0 : wr.cell? ⟨gb444, 0, none⟩ = some (.int .i64 ((rd_T93 l0 x3_1).f0)) := (blk_cell BK444.out 0).trans rfl
                                have hcz35_1 : wr.cell? ⟨gb444, 1, none⟩ = some (.int .i64 ((rd_T93 l0 x3_1).f1)) := (blk_cell BK444.out 1).trans rfl
                                have hcz35_2 : wr.cell? ⟨gb444, 2, none⟩ = some (.int .i64 ((rd_T93 l0 x3_1).f2)) := (blk_cell BK444.out 2).trans rfl
                                have hcz35_3 : wr.cell? ⟨gb444, 3, none⟩ = some (.slice A443_3 ((rd_T93 l0 x3_1).f3).length c443_3) := (blk_cell BK444.out 3).trans rfl
                                have hfz35_0 := blk_frozen BK444.out 0
                                have hfz35_1 := blk_frozen BK444.out 1
                                have hfz35_2 := blk_frozen BK444.out 2
                                have hfz35_3 := blk_frozen BK444.out 3
                                have p445 : 0 ≤ (x6_3 : Int) := of_decide_eq_true (by first | (with_reducible assumption) | assumption)
                                have q445 : x6_3 < (((rd_T93 l0 x3_1).f3).length : Int) := of_decide_eq_true (by first | (with_reducible assumption) | assumption)
                                obtain ⟨ad445, e445, hx445_0, hx445_1, hx445_2⟩ := at_T94 HR443_3.out x6_3 p445 q445
                                cases e445
                                replace hx445_0 := (HB.out.cell (World.block_lt_of_cell? w _ hx445_0)).trans hx445_0
                                replace hx445_1 := (HB.out.cell (World.block_lt_of_cell? w _ hx445_1)).trans hx445_1
                                replace hx445_2 := (HB.out.cell (World.block_lt_of_cell? w _ hx445_2)).trans hx445_2
                                replace p445 := eq_true p445
                                replace q445 := eq_true q445
                                go_wp2_with (first | ((with_reducible refine gate_dst (N := 7) rfl ?_); (try (refine gate_guard (by rfl) ?_; dsimp only)); refine box_event ?hg (N := 7) ?hd (cs := #[.int .i64 0, .int .i64 0, .int .i64 0]) (t := 94) ?hr ?_; (case hd => rfl); (case hg => rfl); (case hr => first | (go_simp; done) | (go_simp; rfl)); intro gb446 hg w36 hbox hb; have n0_ := Aside0.mk (blk_below (g := gb444) (o := .cells #[.int .i64 ((rd_T93 l0 x3_1).f0), .int .i64 ((rd_T93 l0 x3_1).f1), .int .i64 ((rd_T93 l0 x3_1).f2), .slice (some ad445) ((rd_T93 l0 x3_1).f3).length c443_3] 93 (0, 0)) (by (with_reducible repeat (first | refine blk_drewN ?_ _ | refine blk_drew ?_ | refine blk_alloc ?_ _)); exact BK444.out) hb); have n1_ := Aside0.mk (below_step (by repeat (first | (with_reducible first | exact HB.out | apply below_alloc | apply pw_below_drewN | apply below_drew1 | refine below_set ?_ GE444.out) | exact HB.out)) hb); have n2_ := Aside0.mk (hbox); have n3_ := Aside0.mk ((by rw [hg]; exact (below_size (by repeat (first | (with_reducible first | exact HB.out | apply below_alloc | apply pw_below_drewN | apply below_drew1 | refine below_set ?_ GE444.out) | exact HB.out))) : w.heap.size ≤ gb446)); have n4_ := Aside0.mk ((by rw [hg]; exact (below_size (by repeat (first | (with_reducible first | exact HB.out | apply below_alloc | apply pw_below_drewN | apply below_drew1 | refine below_set ?_ GE444.out) | exact HB.out))) : w.heap.size ≤ gb446)); have n5_ := Aside0.mk ((by rw [hg]; exact Nat.ne_of_lt (blk_lt (g := gb444) (o := .cells #[.int .i64 ((rd_T93 l0 x3_1).f0), .int .i64 ((rd_T93 l0 x3_1).f1), .int .i64 ((rd_T93 l0 x3_1).f2), .slice (some ad445) ((rd_T93 l0 x3_1).f3).length c443_3] 93 (0, 0)) (by (with_reducible repeat (first | refine blk_drewN ?_ _ | refine blk_drew ?_ | refine blk_alloc ?_ _)); exact BK444.out)) : gb444 ≠ gb446)); have n6_ := Aside0.mk ((by rw [hg]; exact Nat.ne_of_gt (blk_lt (g := gb444) (o := .cells #[.int .i64 ((rd_T93 l0 x3_1).f0), .int .i64 ((rd_T93 l0 x3_1).f1), .int .i64 ((rd_T93 l0 x3_1).f2), .slice (some ad445) ((rd_T93 l0 x3_1).f3).length c443_3] 93 (0, 0)) (by (with_reducible repeat (first | refine blk_drewN ?_ _ | refine blk_drew ?_ | refine blk_alloc ?_ _)); exact BK444.out)) : gb446 ≠ gb444)); clear BK444; clear HB; have BK444 := n0_; have HB := n1_; have BK446 := n2_; have GW446 := n3_; have GE446 := n4_; have NB444_446 := n5_; have NB446_444 := n6_; clear n0_ n1_ n2_ n3_ n4_ n5_ n6_; clear hb hbox hg; have hnb37 := NB446_444.out; have hnc37 := NB444_446.out; have hcz38_0 : w36.cell? ⟨gb446, 0, none⟩ = some (.int .i64 0) := (blk_cell BK446.out 0).trans rfl; have hcz38_1 : w36.cell? ⟨gb446, 1, none⟩ = some (.int .i64 0) := (blk_cell BK446.out 1).trans rfl; have hcz38_2 : w36.cell? ⟨gb446, 2, none⟩ = some (.int .i64 0) := (blk_cell BK446.out 2).trans rfl; have hfz38_0 := blk_frozen BK446.out 0; have hfz38_1 := blk_frozen BK446.out 1; have hfz38_2 := blk_frozen BK446.out 2; have hcz39_0 : w36.cell? ⟨gb444, 0, none⟩ = some (.int .i64 ((rd_T93 l0 x3_1).f0)) := (blk_cell BK444.out 0).trans rfl; have hcz39_1 : w36.cell? ⟨gb444, 1, none⟩ = some (.int .i64 ((rd_T93 l0 x3_1).f1)) := (blk_cell BK444.out 1).trans rfl; have hcz39_2 : w36.cell? ⟨gb444, 2, none⟩ = some (.int .i64 ((rd_T93 l0 x3_1).f2)) := (blk_cell BK444.out 2).trans rfl; have hcz39_3 : w36.cell? ⟨gb444, 3, none⟩ = some (.slice (some ad445) ((rd_T93 l0 x3_1).f3).length c443_3) := (blk_cell BK444.out 3).trans rfl; have hfz39_0 := blk_frozen BK444.out 0; have hfz39_1 := blk_frozen BK444.out 1; have hfz39_2 := blk_frozen BK444.out 2; have hfz39_3 := blk_frozen BK444.out 3))
                                go_ret
                                exact ⟨by first | rfl | (simp [errW_none, errW_some] <;> rfl) | (simp [*, errW_none, errW_some] <;> rfl), by repeat (first | (with_reducible first | exact HB.out | apply below_alloc | apply pw_below_drewN | apply below_drew1 | refine below_set ?_ GE444.out | refine below_set ?_ GE446.out) | exact HB.out)⟩
                              · rw [if_neg c34] at H
                                have c34b0 : decide (((rd_T93 l0 x3_1).f0) < ((rd_T94 ((rd_T93 l0 x3_1).f3) x6_3).f2)) = false := decide_eq_false c34
                                clear c34
                                by_cases c40 : ((rd_T94 ((rd_T93 l0 x3_1).f3) x6_3).f0) < 0
                                · rw [if_pos c40] at H
                                  have c40b0 : decide (((rd_T94 ((rd_T93 l0 x3_1).f3) x6_3).f0) < 0) = true := decide_eq_true c40
                                  clear c40
                                  obtain rfl := Option.some.inj H
                                  have hcz41_0 : wr.cell? ⟨gb444, 0, none⟩ = some (.int .i64 ((rd_T93 l0 x3_1).f0)) := (blk_cell BK444.out 0).trans rfl
                                  have hcz41_1 : wr.cell? ⟨gb444, 1, none⟩ = some (.int .i64 ((rd_T93 l0 x3_1).f1)) := (blk_cell BK444.out 1).trans rfl
                                  have hcz41_2 : wr.cell? ⟨gb444, 2, none⟩ = some (.int .i64 ((rd_T93 l0 x3_1).f2)) := (blk_cell BK444.out 2).trans rfl
                                  have hcz41_3 : wr.cell? ⟨gb444, 3, none⟩ = some (.slice A443_3 ((rd_T93 l0 x3_1).f3).length c443_3) := (blk_cell BK444.out 3).trans rfl
                                  have hfz41_0 := blk_frozen BK444.out 0
                                  have hfz41_1 := blk_frozen BK444.out 1
                                  have hfz41_2 := blk_frozen BK444.out 2
                                  have hfz41_3 := blk_frozen BK444.out 3
                                  have p445 : 0 ≤ (x6_3 : Int) := of_decide_eq_true (by first | (with_reducible assumption) | assumption)
                                  have q445 : x6_3 < (((rd_T93 l0 x3_1).f3).length : Int) := of_decide_eq_true (by first | (with_reducible assumption) | assumption)
                                  obtain ⟨ad445, e445, hx445_0, hx445_1, hx445_2⟩ := at_T94 HR443_3.out x6_3 p445 q445
                                  cases e445
                                  replace hx445_0 := (HB.out.cell (World.block_lt_of_cell? w _ hx445_0)).trans hx445_0
                                  replace hx445_1 := (HB.out.cell (World.block_lt_of_cell? w _ hx445_1)).trans hx445_1
                                  replace hx445_2 := (HB.out.cell (World.block_lt_of_cell? w _ hx445_2)).trans hx445_2
                                  replace p445 := eq_true p445
                                  replace q445 := eq_true q445
                                  go_wp2_with (first | ((with_reducible refine gate_dst (N := 7) rfl ?_); (try (refine gate_guard (by rfl) ?_; dsimp only)); refine box_event ?hg (N := 7) ?hd (cs := #[.int .i64 0, .int .i64 0, .int .i64 0]) (t := 94) ?hr ?_; (case hd => rfl); (case hg => rfl); (case hr => first | (go_simp; done) | (go_simp; rfl)); intro gb446 hg w42 hbox hb; have n0_ := Aside0.mk (blk_below (g := gb444) (o := .cells #[.int .i64 ((rd_T93 l0 x3_1).f0), .int .i64 ((rd_T93 l0 x3_1).f1), .int .i64 ((rd_T93 l0 x3_1).f2), .slice (some ad445) ((rd_T93 l0 x3_1).f3).length c443_3] 93 (0, 0)) (by (with_reducible repeat (first | refine blk_drewN ?_ _ | refine blk_drew ?_ | refine blk_alloc ?_ _)); exact BK444.out) hb); have n1_ := Aside0.mk (below_step (by repeat (first | (with_reducible first | exact HB.out | apply below_alloc | apply pw_below_drewN | apply below_drew1 | refine below_set ?_ GE444.out) | exact HB.out)) hb); have n2_ := Aside0.mk (hbox); have n3_ := Aside0.mk ((by rw [hg]; exact (below_size (by repeat (first | (with_reducible first | exact HB.out | apply below_alloc | apply pw_below_drewN | apply below_drew1 | refine below_set ?_ GE444.out) | exact HB.out))) : w.heap.size ≤ gb446)); have n4_ := Aside0.mk ((by rw [hg]; exact (below_size (by repeat (first | (with_reducible first | exact HB.out | apply below_alloc | apply pw_below_drewN | apply below_drew1 | refine below_set ?_ GE444.out) | exact HB.out))) : w.heap.size ≤ gb446)); have n5_ := Aside0.mk ((by rw [hg]; exact Nat.ne_of_lt (blk_lt (g := gb444) (o := .cells #[.int .i64 ((rd_T93 l0 x3_1).f0), .int .i64 ((rd_T93 l0 x3_1).f1), .int .i64 ((rd_T93 l0 x3_1).f2), .slice (some ad445) ((rd_T93 l0 x3_1).f3).length c443_3] 93 (0, 0)) (by (with_reducible repeat (first | refine blk_drewN ?_ _ | refine blk_drew ?_ | refine blk_alloc ?_ _)); exact BK444.out)) : gb444 ≠ gb446)); have n6_ := Aside0.mk ((by rw [hg]; exact Nat.ne_of_gt (blk_lt (g := gb444) (o := .cells #[.int .i64 ((rd_T93 l0 x3_1).f0), .int .i64 ((rd_T93 l0 x3_1).f1), .int .i64 ((rd_T93 l0 x3_1).f2), .slice (some ad445) ((rd_T93 l0 x3_1).f3).length c443_3] 93 (0, 0)) (by (with_reducible repeat (first | refine blk_drewN ?_ _ | refine blk_drew ?_ | refine blk_alloc ?_ _)); exact BK444.out)) : gb446 ≠ gb444)); clear BK444; clear HB; have BK444 := n0_; have HB := n1_; have BK446 := n2_; have GW446 := n3_; have GE446 := n4_; have NB444_446 := n5_; have NB446_444 := n6_; clear n0_ n1_ n2_ n3_ n4_ n5_ n6_; clear hb hbox hg; have hnb43 := NB446_444.out; have hnc43 := NB444_446.out; have hcz44_0 : w42.cell? ⟨gb446, 0, none⟩ = some (.int .i64 0) := (blk_cell BK446.out 0).trans rfl; have hcz44_1 : w42.cell? ⟨gb446, 1, none⟩ = some (.int .i64 0) := (blk_cell BK446.out 1).trans rfl; have hcz44_2 : w42.cell? ⟨gb446, 2, none⟩ = some (.int .i64 0) := (blk_cell BK446.out 2).trans rfl; have hfz44_0 := blk_frozen BK446.out 0; have hfz44_1 := blk_frozen BK446.out 1; have hfz44_2 := blk_frozen BK446.out 2; have hcz45_0 : w42.cell? ⟨gb444, 0, none⟩ = some (.int .i64 ((rd_T93 l0 x3_1).f0)) := (blk_cell BK444.out 0).trans rfl; have hcz45_1 : w42.cell? ⟨gb444, 1, none⟩ = some (.int .i64 ((rd_T93 l0 x3_1).f1)) := (blk_cell BK444.out 1).trans rfl; have hcz45_2 : w42.cell? ⟨gb444, 2, none⟩ = some (.int .i64 ((rd_T93 l0 x3_1).f2)) := (blk_cell BK444.out 2).trans rfl; have hcz45_3 : w42.cell? ⟨gb444, 3, none⟩ = some (.slice (some ad445) ((rd_T93 l0 x3_1).f3).length c443_3) := (blk_cell BK444.out 3).trans rfl; have hfz45_0 := blk_frozen BK444.out 0; have hfz45_1 := blk_frozen BK444.out 1; have hfz45_2 := blk_frozen BK444.out 2; have hfz45_3 := blk_frozen BK444.out 3))
                                  go_ret
                                  exact ⟨by first | rfl | (simp [errW_none, errW_some] <;> rfl) | (simp [*, errW_none, errW_some] <;> rfl), by repeat (first | (with_reducible first | exact HB.out | apply below_alloc | apply pw_below_drewN | apply below_drew1 | refine below_set ?_ GE444.out | refine below_set ?_ GE446.out) | exact HB.out)⟩
                                · rw [if_neg c40] at H
                                  have c40b0 : decide (((rd_T94 ((rd_T93 l0 x3_1).f3) x6_3).f0) < 0) = false := decide_eq_false c40
                                  clear c40
                                  by_cases c46 : ((rd_T94 ((rd_T93 l0 x3_1).f3) x6_3).f0) > 1000
                                  · rw [if_pos c46] at H
                                    have c46b0 : decide (1000 < ((rd_T94 ((rd_T93 l0 x3_1).f3) x6_3).f0)) = true := decide_eq_true c46
                                    clear c46
                                    obtain rfl := Option.some.inj H
                                    have hcz47_0 : wr.cell? ⟨gb444, 0, none⟩ = some (.int .i64 ((rd_T93 l0 x3_1).f0)) := (blk_cell BK444.out 0).trans rfl
                                    have hcz47_1 : wr.cell? ⟨gb444, 1, none⟩ = some (.int .i64 ((rd_T93 l0 x3_1).f1)) := (blk_cell BK444.out 1).trans rfl
                                    have hcz47_2 : wr.cell? ⟨gb444, 2, none⟩ = some (.int .i64 ((rd_T93 l0 x3_1).f2)) := (blk_cell BK444.out 2).trans rfl
                                    have hcz47_3 : wr.cell? ⟨gb444, 3, none⟩ = some (.slice A443_3 ((rd_T93 l0 x3_1).f3).length c443_3) := (blk_cell BK444.out 3).trans rfl
                                    have hfz47_0 := blk_frozen BK444.out 0
                                    have hfz47_1 := blk_frozen BK444.out 1
                                    have hfz47_2 := blk_frozen BK444.out 2
                                    have hfz47_3 := blk_frozen BK444.out 3
                                    have p445 : 0 ≤ (x6_3 : Int) := of_decide_eq_true (by first | (with_reducible assumption) | assumption)
                                    have q445 : x6_3 < (((rd_T93 l0 x3_1).f3).length : Int) := of_decide_eq_true (by first | (with_reducible assumption) | assumption)
                                    obtain ⟨ad445, e445, hx445_0, hx445_1, hx445_2⟩ := at_T94 HR443_3.out x6_3 p445 q445
                                    cases e445
                                    replace hx445_0 := (HB.out.cell (World.block_lt_of_cell? w _ hx445_0)).trans hx445_0
                                    replace hx445_1 := (HB.out.cell (World.block_lt_of_cell? w _ hx445_1)).trans hx445_1
                                    replace hx445_2 := (HB.out.cell (World.block_lt_of_cell? w _ hx445_2)).trans hx445_2
                                    replace p445 := eq_true p445
                                    replace q445 := eq_true q445
                                    go_wp2_with (first | ((with_reducible refine gate_dst (N := 7) rfl ?_); (try (refine gate_guard (by rfl) ?_; dsimp only)); refine box_event ?hg (N := 7) ?hd (cs := #[.int .i64 0, .int .i64 0, .int .i64 0]) (t := 94) ?hr ?_; (case hd => rfl); (case hg => rfl); (case hr => first | (go_simp; done) | (go_simp; rfl)); intro gb446 hg w48 hbox hb; have n0_ := Aside0.mk (blk_below (g := gb444) (o := .cells #[.int .i64 ((rd_T93 l0 x3_1).f0), .int .i64 ((rd_T93 l0 x3_1).f1), .int .i64 ((rd_T93 l0 x3_1).f2), .slice (some ad445) ((rd_T93 l0 x3_1).f3).length c443_3] 93 (0, 0)) (by (with_reducible repeat (first | refine blk_drewN ?_ _ | refine blk_drew ?_ | refine blk_alloc ?_ _)); exact BK444.out) hb); have n1_ := Aside0.mk (below_step (by repeat (first | (with_reducible first | exact HB.out | apply below_alloc | apply pw_below_drewN | apply below_drew1 | refine below_set ?_ GE444.out) | exact HB.out)) hb); have n2_ := Aside0.mk (hbox); have n3_ := Aside0.mk ((by rw [hg]; exact (below_size (by repeat (first | (with_reducible first | exact HB.out | apply below_alloc | apply pw_below_drewN | apply below_drew1 | refine below_set ?_ GE444.out) | exact HB.out))) : w.heap.size ≤ gb446)); have n4_ := Aside0.mk ((by rw [hg]; exact (below_size (by repeat (first | (with_reducible first | exact HB.out | apply below_alloc | apply pw_below_drewN | apply below_drew1 | refine below_set ?_ GE444.out) | exact HB.out))) : w.heap.size ≤ gb446)); have n5_ := Aside0.mk ((by rw [hg]; exact Nat.ne_of_lt (blk_lt (g := gb444) (o := .cells #[.int .i64 ((rd_T93 l0 x3_1).f0), .int .i64 ((rd_T93 l0 x3_1).f1), .int .i64 ((rd_T93 l0 x3_1).f2), .slice (some ad445) ((rd_T93 l0 x3_1).f3).length c443_3] 93 (0, 0)) (by (with_reducible repeat (first | refine blk_drewN ?_ _ | refine blk_drew ?_ | refine blk_alloc ?_ _)); exact BK444.out)) : gb444 ≠ gb446)); have n6_ := Aside0.mk ((by rw [hg]; exact Nat.ne_of_gt (blk_lt (g := gb444) (o := .cells #[.int .i64 ((rd_T93 l0 x3_1).f0), .int .i64 ((rd_T93 l0 x3_1).f1), .int .i64 ((rd_T93 l0 x3_1).f2), .slice (some ad445) ((rd_T93 l0 x3_1).f3).length c443_3] 93 (0, 0)) (by (with_reducible repeat (first | refine blk_drewN ?_ _ | refine blk_drew ?_ | refine blk_alloc ?_ _)); exact BK444.out)) : gb446 ≠ gb444)); clear BK444; clear HB; have BK444 := n0_; have HB := n1_; have BK446 := n2_; have GW446 := n3_; have GE446 := n4_; have NB444_446 := n5_; have NB446_444 := n6_; clear n0_ n1_ n2_ n3_ n4_ n5_ n6_; clear hb hbox hg; have hnb49 := NB446_444.out; have hnc49 := NB444_446.out; have hcz50_0 : w48.cell? ⟨gb446, 0, none⟩ = some (.int .i64 0) := (blk_cell BK446.out 0).trans rfl; have hcz50_1 : w48.cell? ⟨gb446, 1, none⟩ = some (.int .i64 0) := (blk_cell BK446.out 1).trans rfl; have hcz50_2 : w48.cell? ⟨gb446, 2, none⟩ = some (.int .i64 0) := (blk_cell BK446.out 2).trans rfl; have hfz50_0 := blk_frozen BK446.out 0; have hfz50_1 := blk_frozen BK446.out 1; have hfz50_2 := blk_frozen BK446.out 2; have hcz51_0 : w48.cell? ⟨gb444, 0, none⟩ = some (.int .i64 ((rd_T93 l0 x3_1).f0)) := (blk_cell BK444.out 0).trans rfl; have hcz51_1 : w48.cell? ⟨gb444, 1, none⟩ = some (.int .i64 ((rd_T93 l0 x3_1).f1)) := (blk_cell BK444.out 1).trans rfl; have hcz51_2 : w48.cell? ⟨gb444, 2, none⟩ = some (.int .i64 ((rd_T93 l0 x3_1).f2)) := (blk_cell BK444.out 2).trans rfl; have hcz51_3 : w48.cell? ⟨gb444, 3, none⟩ = some (.slice (some ad445) ((rd_T93 l0 x3_1).f3).length c443_3) := (blk_cell BK444.out 3).trans rfl; have hfz51_0 := blk_frozen BK444.out 0; have hfz51_1 := blk_frozen BK444.out 1; have hfz51_2 := blk_frozen BK444.out 2; have hfz51_3 := blk_frozen BK444.out 3))
                                    go_ret
                                    exact ⟨by first | rfl | (simp [errW_none, errW_some] <;> rfl) | (simp [*, errW_none, errW_some] <;> rfl), by repeat (first | (with_reducible first | exact HB.out | apply below_alloc | apply pw_below_drewN | apply below_drew1 | refine below_set ?_ GE444.out | refine below_set ?_ GE446.out) | exact HB.out)⟩
                                  · rw [if_neg c46] at H
                                    have c46b0 : decide (1000 < ((rd_T94 ((rd_T93 l0 x3_1).f3) x6_3).f0)) = false := decide_eq_false c46
                                    clear c46
                                    have H' := Aside0.mk H
                                    clear H
                                    have hcz52_0 : wr.cell? ⟨gb444, 0, none⟩ = some (.int .i64 ((rd_T93 l0 x3_1).f0)) := (blk_cell BK444.out 0).trans rfl
                                    have hcz52_1 : wr.cell? ⟨gb444, 1, none⟩ = some (.int .i64 ((rd_T93 l0 x3_1).f1)) := (blk_cell BK444.out 1).trans rfl
                                    have hcz52_2 : wr.cell? ⟨gb444, 2, none⟩ = some (.int .i64 ((rd_T93 l0 x3_1).f2)) := (blk_cell BK444.out 2).trans rfl
                                    have hcz52_3 : wr.cell? ⟨gb444, 3, none⟩ = some (.slice A443_3 ((rd_T93 l0 x3_1).f3).length c443_3) := (blk_cell BK444.out 3).trans rfl
                                    have hfz52_0 := blk_frozen BK444.out 0
                                    have hfz52_1 := blk_frozen BK444.out 1
                                    have hfz52_2 := blk_frozen BK444.out 2
                                    have hfz52_3 := blk_frozen BK444.out 3
                                    have p445 : 0 ≤ (x6_3 : Int) := of_decide_eq_true (by first | (with_reducible assumption) | assumption)
                                    have q445 : x6_3 < (((rd_T93 l0 x3_1).f3).length : Int) := of_decide_eq_true (by first | (with_reducible assumption) | assumption)
                                    obtain ⟨ad445, e445, hx445_0, hx445_1, hx445_2⟩ := at_T94 HR443_3.out x6_3 p445 q445
                                    cases e445
                                    replace hx445_0 := (HB.out.cell (World.block_lt_of_cell? w _ hx445_0)).trans hx445_0
                                    replace hx445_1 := (HB.out.cell (World.block_lt_of_cell? w _ hx445_1)).trans hx445_1
                                    replace hx445_2 := (HB.out.cell (World.block_lt_of_cell? w _ hx445_2)).trans hx445_2
                                    replace p445 := eq_true p445
                                    replace q445 := eq_true q445
                                    go_wp2_with (first | ((with_reducible refine gate_dst (N := 7) rfl ?_); (try (refine gate_guard (by rfl) ?_; dsimp only)); refine box_event ?hg (N := 7) ?hd (cs := #[.int .i64 0, .int .i64 0, .int .i64 0]) (t := 94) ?hr ?_; (case hd => rfl); (case hg => rfl); (case hr => first | (go_simp; done) | (go_simp; rfl)); intro gb446 hg w53 hbox hb; have n0_ := Aside0.mk (blk_below (g := gb444) (o := .cells #[.int .i64 ((rd_T93 l0 x3_1).f0), .int .i64 ((rd_T93 l0 x3_1).f1), .int .i64 ((rd_T93 l0 x3_1).f2), .slice (some ad445) ((rd_T93 l0 x3_1).f3).length c443_3] 93 (0, 0)) (by (with_reducible repeat (first | refine blk_drewN ?_ _ | refine blk_drew ?_ | refine blk_alloc ?_ _)); exact BK444.out) hb); have n1_ := Aside0.mk (below_step (by repeat (first | (with_reducible first | exact HB.out | apply below_alloc | apply pw_below_drewN | apply below_drew1 | refine below_set ?_ GE444.out) | exact HB.out)) hb); have n2_ := Aside0.mk (hbox); have n3_ := Aside0.mk ((by rw [hg]; exact (below_size (by repeat (first | (with_reducible first | exact HB.out | apply below_alloc | apply pw_below_drewN | apply below_drew1 | refine below_set ?_ GE444.out) | exact HB.out))) : w.heap.size ≤ gb446)); have n4_ := Aside0.mk ((by rw [hg]; exact (below_size (by repeat (first | (with_reducible first | exact HB.out | apply below_alloc | apply pw_below_drewN | apply below_drew1 | refine below_set ?_ GE444.out) | exact HB.out))) : w.heap.size ≤ gb446)); have n5_ := Aside0.mk ((by rw [hg]; exact Nat.ne_of_lt (blk_lt (g := gb444) (o := .cells #[.int .i64 ((rd_T93 l0 x3_1).f0), .int .i64 ((rd_T93 l0 x3_1).f1), .int .i64 ((rd_T93 l0 x3_1).f2), .slice (some ad445) ((rd_T93 l0 x3_1).f3).length c443_3] 93 (0, 0)) (by (with_reducible repeat (first | refine blk_drewN ?_ _ | refine blk_drew ?_ | refine blk_alloc ?_ _)); exact BK444.out)) : gb444 ≠ gb446)); have n6_ := Aside0.mk ((by rw [hg]; exact Nat.ne_of_gt (blk_lt (g := gb444) (o := .cells #[.int .i64 ((rd_T93 l0 x3_1).f0), .int .i64 ((rd_T93 l0 x3_1).f1), .int .i64 ((rd_T93 l0 x3_1).f2), .slice (some ad445) ((rd_T93 l0 x3_1).f3).length c443_3] 93 (0, 0)) (by (with_reducible repeat (first | refine blk_drewN ?_ _ | refine blk_drew ?_ | refine blk_alloc ?_ _)); exact BK444.out)) : gb446 ≠ gb444)); clear BK444; clear HB; have BK444 := n0_; have HB := n1_; have BK446 := n2_; have GW446 := n3_; have GE446 := n4_; have NB444_446 := n5_; have NB446_444 := n6_; clear n0_ n1_ n2_ n3_ n4_ n5_ n6_; clear hb hbox hg; have hnb54 := NB446_444.out; have hnc54 := NB444_446.out; have hcz55_0 : w53.cell? ⟨gb446, 0, none⟩ = some (.int .i64 0) := (blk_cell BK446.out 0).trans rfl; have hcz55_1 : w53.cell? ⟨gb446, 1, none⟩ = some (.int .i64 0) := (blk_cell BK446.out 1).trans rfl; have hcz55_2 : w53.cell? ⟨gb446, 2, none⟩ = some (.int .i64 0) := (blk_cell BK446.out 2).trans rfl; have hfz55_0 := blk_frozen BK446.out 0; have hfz55_1 := blk_frozen BK446.out 1; have hfz55_2 := blk_frozen BK446.out 2; have hcz56_0 : w53.cell? ⟨gb444, 0, none⟩ = some (.int .i64 ((rd_T93 l0 x3_1).f0)) := (blk_cell BK444.out 0).trans rfl; have hcz56_1 : w53.cell? ⟨gb444, 1, none⟩ = some (.int .i64 ((rd_T93 l0 x3_1).f1)) := (blk_cell BK444.out 1).trans rfl; have hcz56_2 : w53.cell? ⟨gb444, 2, none⟩ = some (.int .i64 ((rd_T93 l0 x3_1).f2)) := (blk_cell BK444.out 2).trans rfl; have hcz56_3 : w53.cell? ⟨gb444, 3, none⟩ = some (.slice (some ad445) ((rd_T93 l0 x3_1).f3).length c443_3) := (blk_cell BK444.out 3).trans rfl; have hfz56_0 := blk_frozen BK444.out 0; have hfz56_1 := blk_frozen BK444.out 1; have hfz56_2 := blk_frozen BK444.out 2; have hfz56_3 := blk_frozen BK444.out 3))
                                    go_roundg k3
                                    case measure => have := HK1.out; have := HJ4.out; have := HK3.out; omega
                                    case rel => exact ⟨((rd_T94 ((rd_T93 l0 x3_1).f3) x6_3).f2), (wrap64 (x6_3 + 1)), (by first | rfl | (simp; done) | (simp [*]; done)), (by first | rfl | (simp; done) | (simp [*]; done)), H', ⟨by have := HK1.out; have := HJ4.out; have := HK3.out; omega⟩, ⟨by (with_reducible repeat (first | refine blk_drewN ?_ _ | refine blk_drew ?_ | refine blk_alloc ?_ _)); refine blk_far ?_ NB444_446.out _; (with_reducible repeat (first | refine blk_drewN ?_ _ | refine blk_drew ?_ | refine blk_alloc ?_ _)); refine blk_far ?_ NB444_446.out _; (with_reducible repeat (first | refine blk_drewN ?_ _ | refine blk_drew ?_ | refine blk_alloc ?_ _)); refine blk_far ?_ NB444_446.out _; (with_reducible repeat (first | refine blk_drewN ?_ _ | refine blk_drew ?_ | refine blk_alloc ?_ _)); exact BK444.out⟩, ⟨by repeat (first | (with_reducible first | exact HB.out | apply below_alloc | apply pw_below_drewN | apply below_drew1 | refine below_set ?_ GE444.out | refine below_set ?_ GE446.out) | exact HB.out)⟩⟩
                        · rw [if_neg c23] at H
                          exact absurd H (by simp)
                      · rw [if_neg c22] at H
                        have c22b0 : decide (x6_3 < (((rd_T93 l0 x3_1).f3).length : Int)) = false := decide_eq_false c22
                        clear c22
                        have H' := Aside0.mk H
                        clear H
                        have hcz57_0 : wr.cell? ⟨gb444, 0, none⟩ = some (.int .i64 ((rd_T93 l0 x3_1).f0)) := (blk_cell BK444.out 0).trans rfl
                        have hcz57_1 : wr.cell? ⟨gb444, 1, none⟩ = some (.int .i64 ((rd_T93 l0 x3_1).f1)) := (blk_cell BK444.out 1).trans rfl
                        have hcz57_2 : wr.cell? ⟨gb444, 2, none⟩ = some (.int .i64 ((rd_T93 l0 x3_1).f2)) := (blk_cell BK444.out 2).trans rfl
                        have hcz57_3 : wr.cell? ⟨gb444, 3, none⟩ = some (.slice A443_3 ((rd_T93 l0 x3_1).f3).length c443_3) := (blk_cell BK444.out 3).trans rfl
                        have hfz57_0 := blk_frozen BK444.out 0
                        have hfz57_1 := blk_frozen BK444.out 1
                        have hfz57_2 := blk_frozen BK444.out 2
                        have hfz57_3 := blk_frozen BK444.out 3
                        go_wp2
                        go_roundg k3
                        case measure => have := HK1.out; have := HJ4.out; have := HK3.out; omega
                        case rel => exact ⟨(wrap64 (x3_1 + 1)), (by first | rfl | (simp; done) | (simp [*]; done)), H', ⟨by have := HK1.out; have := HJ4.out; have := HK3.out; omega⟩, ⟨by repeat (first | (with_reducible first | exact HB.out | apply below_alloc | apply pw_below_drewN | apply below_drew1 | refine below_set ?_ GE444.out) | exact HB.out)⟩⟩
          · rw [if_neg c4] at H
            exact absurd H (by simp)
        · rw [if_neg c3] at H
          have c3b0 : decide (x3_1 < (l0.length : Int)) = false := decide_eq_false c3
          clear c3
          obtain rfl := Option.some.inj H
          go_wp2
          go_ret
          exact ⟨by first | rfl | (simp [errW_none, errW_some] <;> rfl) | (simp [*, errW_none, errW_some] <;> rfl), by repeat (first | (with_reducible first | exact HB.out | apply below_alloc | apply pw_below_drewN | apply below_drew1) | exact HB.out)⟩

end Go.Proofs.Ytcmifojplgmgkaa.P
