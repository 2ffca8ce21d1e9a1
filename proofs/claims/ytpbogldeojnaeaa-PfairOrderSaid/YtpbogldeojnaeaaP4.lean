-- written by wip/drive.py (a driver of this session's own over the kit's print.py)
import Derived.Test.YtpbogldeojnaeaaP0
import Derived.Test.YtpbogldeojnaeaaP1
import Derived.Test.YtpbogldeojnaeaaP2
import Derived.Test.YtpbogldeojnaeaaP3
namespace Go.Proofs.Ytpbogldeojnaeaa.P
open Go.RowKit Go.Proofs.YtpbogldeojnaeaaW.PrintWords Go.Proofs.YtpbogldeojnaeaaW.PrintLast Go.Proofs.YtpbogldeojnaeaaW.PrintMore
attribute [local go_sem] max2_int min2_int max_two min_two max_three min_three max_four min_four   -- for this text's walks alone
set_option linter.unusedVariables false
set_option linter.unusedSimpArgs false

attribute [local go_sem high] eqA26
/-! ### ontimelaw45_awake: function 11 -/
def ontimelaw45_awake.f (k : Nat)  : Option (Bool) := (pfair_Window.f k (⟨#[]⟩ : ByteArray) 5 8 2).bind fun bt129 => (if bt129.2.2.2 = 0 then (if (bt129.1 == 2 && (bt129.2.1 == 1 && (bt129.2.2.1 == 4))) = true then ((pfair_Overlaps.f k (⟨#[]⟩ : ByteArray) 5 8 4).bind fun t134 => (if t134 = true then ((pfair_Overlaps.f k (⟨#[]⟩ : ByteArray) 5 8 5).bind fun t135 => (if t135 = true then (some false) else ((pfair_Group.f k (⟨#[]⟩ : ByteArray) 5 8 1).bind fun t136 => (if t136 = 3 then ((pfair_Group.f k (⟨#[]⟩ : ByteArray) 5 8 3).bind fun t137 => (if t137 = 6 then ((pfair_Heavy.f k (⟨#[]⟩ : ByteArray) 5 8).bind fun t138 => (some t138)) else (some false))) else (some false))))) else (some false))) else (some false)) else (some false))
theorem ontimelaw45_awake.mono : ∀ k, LeO (ontimelaw45_awake.f k ) (ontimelaw45_awake.f (k + 1) ) := by
  intro  k
  unfold ontimelaw45_awake.f
  repeat' first
      | (with_reducible exact pfair_Group.mono _ _ _ _ _)
      | (with_reducible exact pfair_Heavy.mono _ _ _ _)
      | (with_reducible exact pfair_Overlaps.mono _ _ _ _ _)
      | (with_reducible exact pfair_Window.mono _ _ _ _ _)
      | (with_reducible exact LeO.refl _)
      | (with_reducible exact LeO.none _)
      | (with_reducible refine LeO.ite ?_ ?_)
      | (with_reducible refine LeO.bind ?_ (fun _ => ?_))
      | exact pfair_Group.mono _ _ _ _ _
      | exact pfair_Heavy.mono _ _ _ _
      | exact pfair_Overlaps.mono _ _ _ _ _
      | exact pfair_Window.mono _ _ _ _ _
      | exact LeO.none _
      | refine LeO.ite ?_ ?_
      | refine LeO.bind ?_ (fun _ => ?_)
set_option maxHeartbeats 8000000 in
set_option maxRecDepth 100000 in
theorem ontimelaw45_awake.calls (k : Nat)  (r : Bool) (w : World) (h : ontimelaw45_awake.f k  = some r) :
    Calls Try.prog 11 #[] w fun e w' => e = .returned (.bool r) ∧ Below w.heap.size w w' := by
  have hu23 := Try.underlying23
  have hu26 := Try.underlying26
  have HB := Aside0.mk (Below.refl w.heap.size w)
  have H : ((pfair_Window.f k (⟨#[]⟩ : ByteArray) 5 8 2).bind fun bt129 => (if bt129.2.2.2 = 0 then (if (bt129.1 == 2 && (bt129.2.1 == 1 && (bt129.2.2.1 == 4))) = true then ((pfair_Overlaps.f k (⟨#[]⟩ : ByteArray) 5 8 4).bind fun t134 => (if t134 = true then ((pfair_Overlaps.f k (⟨#[]⟩ : ByteArray) 5 8 5).bind fun t135 => (if t135 = true then (some false) else ((pfair_Group.f k (⟨#[]⟩ : ByteArray) 5 8 1).bind fun t136 => (if t136 = 3 then ((pfair_Group.f k (⟨#[]⟩ : ByteArray) 5 8 3).bind fun t137 => (if t137 = 6 then ((pfair_Heavy.f k (⟨#[]⟩ : ByteArray) 5 8).bind fun t138 => (some t138)) else (some false))) else (some false))))) else (some false))) else (some false)) else (some false))) = some r := h
  clear h
  replace H := Option.bind_eq_some_iff.mp H
  obtain ⟨⟨t129, t130, t131, t132⟩, A10, H⟩ := H
  replace H : (if t132 = 0 then (if (t129 == 2 && (t130 == 1 && (t131 == 4))) = true then ((pfair_Overlaps.f k (⟨#[]⟩ : ByteArray) 5 8 4).bind fun t134 => (if t134 = true then ((pfair_Overlaps.f k (⟨#[]⟩ : ByteArray) 5 8 5).bind fun t135 => (if t135 = true then (some false) else ((pfair_Group.f k (⟨#[]⟩ : ByteArray) 5 8 1).bind fun t136 => (if t136 = 3 then ((pfair_Group.f k (⟨#[]⟩ : ByteArray) 5 8 3).bind fun t137 => (if t137 = 6 then ((pfair_Heavy.f k (⟨#[]⟩ : ByteArray) 5 8).bind fun t138 => (some t138)) else (some false))) else (some false))))) else (some false))) else (some false)) else (some false)) = some r := H
  have A1 := Aside0.mk A10
  clear A10
  by_cases c2 : t132 = 0
  · rw [if_pos c2] at H
    have c2b0 : (t132 == 0) = true := beq_iff_eq.mpr c2
    have c2b1 : (t132 != 0) = false := bne_eq_false_iff_eq.mpr c2
    clear c2
    by_cases c3 : (t129 == 2 && (t130 == 1 && (t131 == 4))) = true
    · rw [if_pos c3] at H
      have c3b0 : (t129 == 2 && (t130 == 1 && (t131 == 4))) = true := c3
      (try (have c3b1 : decide (t129 = 2 && (t130 == 1 && (t131 == 4))) = true := by simpa using c3))
      (try (have c3b2 : (t129 == 2 && (t130 == 1 && (t131 == 4))) = true := by simpa using c3))
      clear c3
      replace H := Option.bind_eq_some_iff.mp H
      obtain ⟨t134, A40, H⟩ := H
      replace H : (if t134 = true then ((pfair_Overlaps.f k (⟨#[]⟩ : ByteArray) 5 8 5).bind fun t135 => (if t135 = true then (some false) else ((pfair_Group.f k (⟨#[]⟩ : ByteArray) 5 8 1).bind fun t136 => (if t136 = 3 then ((pfair_Group.f k (⟨#[]⟩ : ByteArray) 5 8 3).bind fun t137 => (if t137 = 6 then ((pfair_Heavy.f k (⟨#[]⟩ : ByteArray) 5 8).bind fun t138 => (some t138)) else (some false))) else (some false))))) else (some false)) = some r := H
      have A4 := Aside0.mk A40
      clear A40
      by_cases c5 : t134 = true
      · subst c5
        have H1 : ((pfair_Overlaps.f k (⟨#[]⟩ : ByteArray) 5 8 5).bind fun t135 => (if t135 = true then (some false) else ((pfair_Group.f k (⟨#[]⟩ : ByteArray) 5 8 1).bind fun t136 => (if t136 = 3 then ((pfair_Group.f k (⟨#[]⟩ : ByteArray) 5 8 3).bind fun t137 => (if t137 = 6 then ((pfair_Heavy.f k (⟨#[]⟩ : ByteArray) 5 8).bind fun t138 => (some t138)) else (some false))) else (some false))))) = some r := by rw [if_pos rfl] at H; exact H
        clear H
        have H := H1
        clear H1
        replace H := Option.bind_eq_some_iff.mp H
        obtain ⟨t135, A60, H⟩ := H
        replace H : (if t135 = true then (some false) else ((pfair_Group.f k (⟨#[]⟩ : ByteArray) 5 8 1).bind fun t136 => (if t136 = 3 then ((pfair_Group.f k (⟨#[]⟩ : ByteArray) 5 8 3).bind fun t137 => (if t137 = 6 then ((pfair_Heavy.f k (⟨#[]⟩ : ByteArray) 5 8).bind fun t138 => (some t138)) else (some false))) else (some false)))) = some r := H
        have A6 := Aside0.mk A60
        clear A60
        by_cases c7 : t135 = true
        · subst c7
          have H1 : (some false) = some r := by rw [if_pos rfl] at H; exact H
          clear H
          have H := H1
          clear H1
          obtain rfl := Option.some.inj H
          go_enter Try.func11, Try.ntmps11
          go_wp2_with (first | ((with_reducible refine gate_dst (N := 1) rfl ?_); refine box_event ?hg (N := 1) ?hd (cs := #[.string (⟨#[]⟩ : ByteArray), .int .i64 0, .int .i64 0]) (t := 23) ?hr ?_; (case hd => rfl); (case hg => rfl); (case hr => first | (go_simp; done) | (go_simp; rfl)); intro gb128 hg w8 hbox hb; have n0_ := Aside0.mk (below_step (by repeat (first | (with_reducible first | exact HB.out | apply below_alloc | apply pw_below_drewN | apply below_drew1) | exact HB.out)) hb); have n1_ := Aside0.mk (hbox); have n2_ := Aside0.mk ((by rw [hg]; exact (below_size (by repeat (first | (with_reducible first | exact HB.out | apply below_alloc | apply pw_below_drewN | apply below_drew1) | exact HB.out))) : w.heap.size ≤ gb128)); have n3_ := Aside0.mk ((by rw [hg]; exact (below_size (by repeat (first | (with_reducible first | exact HB.out | apply below_alloc | apply pw_below_drewN | apply below_drew1) | exact HB.out))) : w.heap.size ≤ gb128)); clear HB; have HB := n0_; have BK128 := n1_; have GW128 := n2_; have GE128 := n3_; clear n0_ n1_ n2_ n3_; clear hb hbox hg; have hcz9_0 : w8.cell? ⟨gb128, 0, none⟩ = some (.string (⟨#[]⟩ : ByteArray)) := (blk_cell BK128.out 0).trans rfl; have hcz9_1 : w8.cell? ⟨gb128, 1, none⟩ = some (.int .i64 0) := (blk_cell BK128.out 1).trans rfl; have hcz9_2 : w8.cell? ⟨gb128, 2, none⟩ = some (.int .i64 0) := (blk_cell BK128.out 2).trans rfl; have hfz9_0 := blk_frozen BK128.out 0; have hfz9_1 := blk_frozen BK128.out 1; have hfz9_2 := blk_frozen BK128.out 2) | ((with_reducible refine gate_callee (f := 12) rfl ?_); refine goesL_ (some 7) rfl rfl Try.func12 (by kernel_rfl) rfl #[.agg #[.string (⟨#[]⟩ : ByteArray), .int .i64 5, .int .i64 8], .int .i64 2] rfl (by (try simp only [List.map_toArray, List.map_cons, List.map_nil]); first | done | rfl | (simp only [List.length_drop, List.length_take]; rfl)) ?_; (with_reducible refine (pfair_Window.calls k (⟨#[]⟩ : ByteArray) 5 8 2 t129 t130 t131 t132 _ A1.out).mono ?_); rintro e w10 ⟨rfl, hb⟩; refine ⟨_, rfl, ?_⟩; have n0_ := Aside0.mk (blk_below (g := gb128) (o := .cells #[.string (⟨#[]⟩ : ByteArray), .int .i64 5, .int .i64 8] 23 (0, 0)) (by (with_reducible repeat (first | refine blk_drewN ?_ _ | refine blk_drew ?_ | refine blk_alloc ?_ _)); refine blk_put (cs := #[.string (⟨#[]⟩ : ByteArray), .int .i64 5, .int .i64 0]) ?_ 2 _ rfl; (with_reducible repeat (first | refine blk_drewN ?_ _ | refine blk_drew ?_ | refine blk_alloc ?_ _)); refine blk_put (cs := #[.string (⟨#[]⟩ : ByteArray), .int .i64 0, .int .i64 0]) ?_ 1 _ rfl; (with_reducible repeat (first | refine blk_drewN ?_ _ | refine blk_drew ?_ | refine blk_alloc ?_ _)); refine blk_put (cs := #[.string (⟨#[]⟩ : ByteArray), .int .i64 0, .int .i64 0]) ?_ 0 _ rfl; (with_reducible repeat (first | refine blk_drewN ?_ _ | refine blk_drew ?_ | refine blk_alloc ?_ _)); exact BK128.out) hb); have n1_ := Aside0.mk (below_step (by repeat (first | (with_reducible first | exact HB.out | apply below_alloc | apply pw_below_drewN | apply below_drew1 | refine below_set ?_ GE128.out) | exact HB.out)) hb); clear BK128; clear HB; have BK128 := n0_; have HB := n1_; clear n0_ n1_; (try clear hb); (try clear hb2); (try clear hk); (try clear hi)) | ((with_reducible refine gate_dst (N := 2) rfl ?_); refine box_event ?hg (N := 2) ?hd (cs := #[.int .i64 0, .int .i64 0, .int .i64 0]) (t := 26) ?hr ?_; (case hd => rfl); (case hg => rfl); (case hr => first | (go_simp; done) | (go_simp; rfl)); intro gb133 hg w11 hbox hb; have n0_ := Aside0.mk (blk_below (g := gb128) (o := .cells #[.string (⟨#[]⟩ : ByteArray), .int .i64 5, .int .i64 8] 23 (0, 0)) (by (with_reducible repeat (first | refine blk_drewN ?_ _ | refine blk_drew ?_ | refine blk_alloc ?_ _)); exact BK128.out) hb); have n1_ := Aside0.mk (below_step (by repeat (first | (with_reducible first | exact HB.out | apply below_alloc | apply pw_below_drewN | apply below_drew1 | refine below_set ?_ GE128.out) | exact HB.out)) hb); have n2_ := Aside0.mk (hbox); have n3_ := Aside0.mk ((by rw [hg]; exact (below_size (by repeat (first | (with_reducible first | exact HB.out | apply below_alloc | apply pw_below_drewN | apply below_drew1 | refine below_set ?_ GE128.out) | exact HB.out))) : w.heap.size ≤ gb133)); have n4_ := Aside0.mk ((by rw [hg]; exact (below_size (by repeat (first | (with_reducible first | exact HB.out | apply below_alloc | apply pw_below_drewN | apply below_drew1 | refine below_set ?_ GE128.out) | exact HB.out))) : w.heap.size ≤ gb133)); have n5_ := Aside0.mk ((by rw [hg]; exact Nat.ne_of_lt (blk_lt (g := gb128) (o := .cells #[.string (⟨#[]⟩ : ByteArray), .int .i64 5, .int .i64 8] 23 (0, 0)) (by (with_reducible repeat (first | refine blk_drewN ?_ _ | refine blk_drew ?_ | refine blk_alloc ?_ _)); exact BK128.out)) : gb128 ≠ gb133)); have n6_ := Aside0.mk ((by rw [hg]; exact Nat.ne_of_gt (blk_lt (g := gb128) (o := .cells #[.string (⟨#[]⟩ : ByteArray), .int .i64 5, .int .i64 8] 23 (0, 0)) (by (with_reducible repeat (first | refine blk_drewN ?_ _ | refine blk_drew ?_ | refine blk_alloc ?_ _)); exact BK128.out)) : gb133 ≠ gb128)); clear BK128; clear HB; have BK128 := n0_; have HB := n1_; have BK133 := n2_; have GW133 := n3_; have GE133 := n4_; have NB128_133 := n5_; have NB133_128 := n6_; clear n0_ n1_ n2_ n3_ n4_ n5_ n6_; clear hb hbox hg; have hnb12 := NB133_128.out; have hnc12 := NB128_133.out; have hcz13_0 : w11.cell? ⟨gb133, 0, none⟩ = some (.int .i64 0) := (blk_cell BK133.out 0).trans rfl; have hcz13_1 : w11.cell? ⟨gb133, 1, none⟩ = some (.int .i64 0) := (blk_cell BK133.out 1).trans rfl; have hcz13_2 : w11.cell? ⟨gb133, 2, none⟩ = some (.int .i64 0) := (blk_cell BK133.out 2).trans rfl; have hfz13_0 := blk_frozen BK133.out 0; have hfz13_1 := blk_frozen BK133.out 1; have hfz13_2 := blk_frozen BK133.out 2; have hcz14_0 : w11.cell? ⟨gb128, 0, none⟩ = some (.string (⟨#[]⟩ : ByteArray)) := (blk_cell BK128.out 0).trans rfl; have hcz14_1 : w11.cell? ⟨gb128, 1, none⟩ = some (.int .i64 5) := (blk_cell BK128.out 1).trans rfl; have hcz14_2 : w11.cell? ⟨gb128, 2, none⟩ = some (.int .i64 8) := (blk_cell BK128.out 2).trans rfl; have hfz14_0 := blk_frozen BK128.out 0; have hfz14_1 := blk_frozen BK128.out 1; have hfz14_2 := blk_frozen BK128.out 2) | (go_at_call 16; (with_reducible refine (pfair_Overlaps.calls k (⟨#[]⟩ : ByteArray) 5 8 4 true _ A4.out).mono ?_); rintro e w15 ⟨rfl, hb⟩; have n0_ := Aside0.mk (blk_below (g := gb128) (o := .cells #[.string (⟨#[]⟩ : ByteArray), .int .i64 5, .int .i64 8] 23 (0, 0)) (by (with_reducible repeat (first | refine blk_drewN ?_ _ | refine blk_drew ?_ | refine blk_alloc ?_ _)); refine blk_far ?_ NB128_133.out _; (with_reducible repeat (first | refine blk_drewN ?_ _ | refine blk_drew ?_ | refine blk_alloc ?_ _)); refine blk_far ?_ NB128_133.out _; (with_reducible repeat (first | refine blk_drewN ?_ _ | refine blk_drew ?_ | refine blk_alloc ?_ _)); refine blk_far ?_ NB128_133.out _; (with_reducible repeat (first | refine blk_drewN ?_ _ | refine blk_drew ?_ | refine blk_alloc ?_ _)); exact BK128.out) hb); have n1_ := Aside0.mk (blk_below (g := gb133) (o := .cells #[.int .i64 t129, .int .i64 t130, .int .i64 t131] 26 (0, 0)) (by (with_reducible repeat (first | refine blk_drewN ?_ _ | refine blk_drew ?_ | refine blk_alloc ?_ _)); refine blk_put (cs := #[.int .i64 t129, .int .i64 t130, .int .i64 0]) ?_ 2 _ rfl; (with_reducible repeat (first | refine blk_drewN ?_ _ | refine blk_drew ?_ | refine blk_alloc ?_ _)); refine blk_put (cs := #[.int .i64 t129, .int .i64 0, .int .i64 0]) ?_ 1 _ rfl; (with_reducible repeat (first | refine blk_drewN ?_ _ | refine blk_drew ?_ | refine blk_alloc ?_ _)); refine blk_put (cs := #[.int .i64 0, .int .i64 0, .int .i64 0]) ?_ 0 _ rfl; (with_reducible repeat (first | refine blk_drewN ?_ _ | refine blk_drew ?_ | refine blk_alloc ?_ _)); exact BK133.out) hb); have n2_ := Aside0.mk (below_step (by repeat (first | (with_reducible first | exact HB.out | apply below_alloc | apply pw_below_drewN | apply below_drew1 | refine below_set ?_ GE128.out | refine below_set ?_ GE133.out) | exact HB.out)) hb); clear BK128; clear BK133; clear HB; have BK128 := n0_; have BK133 := n1_; have HB := n2_; clear n0_ n1_ n2_; (try clear hb); (try clear hb2); (try clear hk); (try clear hi); have hcz16_0 : w15.cell? ⟨gb128, 0, none⟩ = some (.string (⟨#[]⟩ : ByteArray)) := (blk_cell BK128.out 0).trans rfl; have hcz16_1 : w15.cell? ⟨gb128, 1, none⟩ = some (.int .i64 5) := (blk_cell BK128.out 1).trans rfl; have hcz16_2 : w15.cell? ⟨gb128, 2, none⟩ = some (.int .i64 8) := (blk_cell BK128.out 2).trans rfl; have hfz16_0 := blk_frozen BK128.out 0; have hfz16_1 := blk_frozen BK128.out 1; have hfz16_2 := blk_frozen BK128.out 2) | (go_at_call 16; (with_reducible refine (pfair_Overlaps.calls k (⟨#[]⟩ : ByteArray) 5 8 5 true _ A6.out).mono ?_); rintro e w17 ⟨rfl, hb⟩; have n0_ := Aside0.mk (blk_below (g := gb128) (o := .cells #[.string (⟨#[]⟩ : ByteArray), .int .i64 5, .int .i64 8] 23 (0, 0)) (by (with_reducible repeat (first | refine blk_drewN ?_ _ | refine blk_drew ?_ | refine blk_alloc ?_ _)); exact BK128.out) hb); have n1_ := Aside0.mk (blk_below (g := gb133) (o := .cells #[.int .i64 t129, .int .i64 t130, .int .i64 t131] 26 (0, 0)) (by (with_reducible repeat (first | refine blk_drewN ?_ _ | refine blk_drew ?_ | refine blk_alloc ?_ _)); exact BK133.out) hb); have n2_ := Aside0.mk (below_step (by repeat (first | (with_reducible first | exact HB.out | apply below_alloc | apply pw_below_drewN | apply below_drew1 | refine below_set ?_ GE128.out | refine below_set ?_ GE133.out) | exact HB.out)) hb); clear BK128; clear BK133; clear HB; have BK128 := n0_; have BK133 := n1_; have HB := n2_; clear n0_ n1_ n2_; (try clear hb); (try clear hb2); (try clear hk); (try clear hi)))
          go_ret
          exact ⟨by first | rfl | (simp [errW_none, errW_some] <;> rfl) | (simp [*, errW_none, errW_some] <;> rfl), by repeat (first | (with_reducible first | exact HB.out | apply below_alloc | apply pw_below_drewN | apply below_drew1 | refine below_set ?_ GE128.out | refine below_set ?_ GE133.out) | exact HB.out)⟩
        · replace c7 := Bool.eq_false_iff.mpr c7
          subst c7
          have H1 : ((pfair_Group.f k (⟨#[]⟩ : ByteArray) 5 8 1).bind fun t136 => (if t136 = 3 then ((pfair_Group.f k (⟨#[]⟩ : ByteArray) 5 8 3).bind fun t137 => (if t137 = 6 then ((pfair_Heavy.f k (⟨#[]⟩ : ByteArray) 5 8).bind fun t138 => (some t138)) else (some false))) else (some false))) = some r := by rw [if_neg (show ¬ (false = true) by decide)] at H; exact H
          clear H
          have H := H1
          clear H1
          replace H := Option.bind_eq_some_iff.mp H
          obtain ⟨t136, A180, H⟩ := H
          replace H : (if t136 = 3 then ((pfair_Group.f k (⟨#[]⟩ : ByteArray) 5 8 3).bind fun t137 => (if t137 = 6 then ((pfair_Heavy.f k (⟨#[]⟩ : ByteArray) 5 8).bind fun t138 => (some t138)) else (some false))) else (some false)) = some r := H
          have A18 := Aside0.mk A180
          clear A180
          by_cases c19 : t136 = 3
          · rw [if_pos c19] at H
            have c19b0 : (t136 == 3) = true := beq_iff_eq.mpr c19
            have c19b1 : (t136 != 3) = false := bne_eq_false_iff_eq.mpr c19
            clear c19
            replace H := Option.bind_eq_some_iff.mp H
            obtain ⟨t137, A200, H⟩ := H
            replace H : (if t137 = 6 then ((pfair_Heavy.f k (⟨#[]⟩ : ByteArray) 5 8).bind fun t138 => (some t138)) else (some false)) = some r := H
            have A20 := Aside0.mk A200
            clear A200
            by_cases c21 : t137 = 6
            · rw [if_pos c21] at H
              have c21b0 : (t137 == 6) = true := beq_iff_eq.mpr c21
              have c21b1 : (t137 != 6) = false := bne_eq_false_iff_eq.mpr c21
              clear c21
              replace H := Option.bind_eq_some_iff.mp H
              obtain ⟨t138, A220, H⟩ := H
              replace H : (some t138) = some r := H
              have A22 := Aside0.mk A220
              clear A220
              obtain rfl := Option.some.inj H
              go_enter Try.func11, Try.ntmps11
              go_wp2_with (first | ((with_reducible refine gate_dst (N := 1) rfl ?_); refine box_event ?hg (N := 1) ?hd (cs := #[.string (⟨#[]⟩ : ByteArray), .int .i64 0, .int .i64 0]) (t := 23) ?hr ?_; (case hd => rfl); (case hg => rfl); (case hr => first | (go_simp; done) | (go_simp; rfl)); intro gb128 hg w23 hbox hb; have n0_ := Aside0.mk (below_step (by repeat (first | (with_reducible first | exact HB.out | apply below_alloc | apply pw_below_drewN | apply below_drew1) | exact HB.out)) hb); have n1_ := Aside0.mk (hbox); have n2_ := Aside0.mk ((by rw [hg]; exact (below_size (by repeat (first | (with_reducible first | exact HB.out | apply below_alloc | apply pw_below_drewN | apply below_drew1) | exact HB.out))) : w.heap.size ≤ gb128)); have n3_ := Aside0.mk ((by rw [hg]; exact (below_size (by repeat (first | (with_reducible first | exact HB.out | apply below_alloc | apply pw_below_drewN | apply below_drew1) | exact HB.out))) : w.heap.size ≤ gb128)); clear HB; have HB := n0_; have BK128 := n1_; have GW128 := n2_; have GE128 := n3_; clear n0_ n1_ n2_ n3_; clear hb hbox hg; have hcz24_0 : w23.cell? ⟨gb128, 0, none⟩ = some (.string (⟨#[]⟩ : ByteArray)) := (blk_cell BK128.out 0).trans rfl; have hcz24_1 : w23.cell? ⟨gb128, 1, none⟩ = some (.int .i64 0) := (blk_cell BK128.out 1).trans rfl; have hcz24_2 : w23.cell? ⟨gb128, 2, none⟩ = some (.int .i64 0) := (blk_cell BK128.out 2).trans rfl; have hfz24_0 := blk_frozen BK128.out 0; have hfz24_1 := blk_frozen BK128.out 1; have hfz24_2 := blk_frozen BK128.out 2) | ((with_reducible refine gate_callee (f := 12) rfl ?_); refine goesL_ (some 7) rfl rfl Try.func12 (by kernel_rfl) rfl #[.agg #[.string (⟨#[]⟩ : ByteArray), .int .i64 5, .int .i64 8], .int .i64 2] rfl (by (try simp only [List.map_toArray, List.map_cons, List.map_nil]); first | done | rfl | (simp only [List.length_drop, List.length_take]; rfl)) ?_; (with_reducible refine (pfair_Window.calls k (⟨#[]⟩ : ByteArray) 5 8 2 t129 t130 t131 t132 _ A1.out).mono ?_); rintro e w25 ⟨rfl, hb⟩; refine ⟨_, rfl, ?_⟩; have n0_ := Aside0.mk (blk_below (g := gb128) (o := .cells #[.string (⟨#[]⟩ : ByteArray), .int .i64 5, .int .i64 8] 23 (0, 0)) (by (with_reducible repeat (first | refine blk_drewN ?_ _ | refine blk_drew ?_ | refine blk_alloc ?_ _)); refine blk_put (cs := #[.string (⟨#[]⟩ : ByteArray), .int .i64 5, .int .i64 0]) ?_ 2 _ rfl; (with_reducible repeat (first | refine blk_drewN ?_ _ | refine blk_drew ?_ | refine blk_alloc ?_ _)); refine blk_put (cs := #[.string (⟨#[]⟩ : ByteArray), .int .i64 0, .int .i64 0]) ?_ 1 _ rfl; (with_reducible repeat (first | refine blk_drewN ?_ _ | refine blk_drew ?_ | refine blk_alloc ?_ _)); refine blk_put (cs := #[.string (⟨#[]⟩ : ByteArray), .int .i64 0, .int .i64 0]) ?_ 0 _ rfl; (with_reducible repeat (first | refine blk_drewN ?_ _ | refine blk_drew ?_ | refine blk_alloc ?_ _)); exact BK128.out) hb); have n1_ := Aside0.mk (below_step (by repeat (first | (with_reducible first | exact HB.out | apply below_alloc | apply pw_below_drewN | apply below_drew1 | refine below_set ?_ GE128.out) | exact HB.out)) hb); clear BK128; clear HB; have BK128 := n0_; have HB := n1_; clear n0_ n1_; (try clear hb); (try clear hb2); (try clear hk); (try clear hi)) | ((with_reducible refine gate_dst (N := 2) rfl ?_); refine box_event ?hg (N := 2) ?hd (cs := #[.int .i64 0, .int .i64 0, .int .i64 0]) (t := 26) ?hr ?_; (case hd => rfl); (case hg => rfl); (case hr => first | (go_simp; done) | (go_simp; rfl)); intro gb133 hg w26 hbox hb; have n0_ := Aside0.mk (blk_below (g := gb128) (o := .cells #[.string (⟨#[]⟩ : ByteArray), .int .i64 5, .int .i64 8] 23 (0, 0)) (by (with_reducible repeat (first | refine blk_drewN ?_ _ | refine blk_drew ?_ | refine blk_alloc ?_ _)); exact BK128.out) hb); have n1_ := Aside0.mk (below_step (by repeat (first | (with_reducible first | exact HB.out | apply below_alloc | apply pw_below_drewN | apply below_drew1 | refine below_set ?_ GE128.out) | exact HB.out)) hb); have n2_ := Aside0.mk (hbox); have n3_ := Aside0.mk ((by rw [hg]; exact (below_size (by repeat (first | (with_reducible first | exact HB.out | apply below_alloc | apply pw_below_drewN | apply below_drew1 | refine below_set ?_ GE128.out) | exact HB.out))) : w.heap.size ≤ gb133)); have n4_ := Aside0.mk ((by rw [hg]; exact (below_size (by repeat (first | (with_reducible first | exact HB.out | apply below_alloc | apply pw_below_drewN | apply below_drew1 | refine below_set ?_ GE128.out) | exact HB.out))) : w.heap.size ≤ gb133)); have n5_ := Aside0.mk ((by rw [hg]; exact Nat.ne_of_lt (blk_lt (g := gb128) (o := .cells #[.string (⟨#[]⟩ : ByteArray), .int .i64 5, .int .i64 8] 23 (0, 0)) (by (with_reducible repeat (first | refine blk_drewN ?_ _ | refine blk_drew ?_ | refine blk_alloc ?_ _)); exact BK128.out)) : gb128 ≠ gb133)); have n6_ := Aside0.mk ((by rw [hg]; exact Nat.ne_of_gt (blk_lt (g := gb128) (o := .cells #[.string (⟨#[]⟩ : ByteArray), .int .i64 5, .int .i64 8] 23 (0, 0)) (by (with_reducible repeat (first | refine blk_drewN ?_ _ | refine blk_drew ?_ | refine blk_alloc ?_ _)); exact BK128.out)) : gb133 ≠ gb128)); clear BK128; clear HB; have BK128 := n0_; have HB := n1_; have BK133 := n2_; have GW133 := n3_; have GE133 := n4_; have NB128_133 := n5_; have NB133_128 := n6_; clear n0_ n1_ n2_ n3_ n4_ n5_ n6_; clear hb hbox hg; have hnb27 := NB133_128.out; have hnc27 := NB128_133.out; have hcz28_0 : w26.cell? ⟨gb133, 0, none⟩ = some (.int .i64 0) := (blk_cell BK133.out 0).trans rfl; have hcz28_1 : w26.cell? ⟨gb133, 1, none⟩ = some (.int .i64 0) := (blk_cell BK133.out 1).trans rfl; have hcz28_2 : w26.cell? ⟨gb133, 2, none⟩ = some (.int .i64 0) := (blk_cell BK133.out 2).trans rfl; have hfz28_0 := blk_frozen BK133.out 0; have hfz28_1 := blk_frozen BK133.out 1; have hfz28_2 := blk_frozen BK133.out 2; have hcz29_0 : w26.cell? ⟨gb128, 0, none⟩ = some (.string (⟨#[]⟩ : ByteArray)) := (blk_cell BK128.out 0).trans rfl; have hcz29_1 : w26.cell? ⟨gb128, 1, none⟩ = some (.int .i64 5) := (blk_cell BK128.out 1).trans rfl; have hcz29_2 : w26.cell? ⟨gb128, 2, none⟩ = some (.int .i64 8) := (blk_cell BK128.out 2).trans rfl; have hfz29_0 := blk_frozen BK128.out 0; have hfz29_1 := blk_frozen BK128.out 1; have hfz29_2 := blk_frozen BK128.out 2) | (go_at_call 16; (with_reducible refine (pfair_Overlaps.calls k (⟨#[]⟩ : ByteArray) 5 8 4 true _ A4.out).mono ?_); rintro e w30 ⟨rfl, hb⟩; have n0_ := Aside0.mk (blk_below (g := gb128) (o := .cells #[.string (⟨#[]⟩ : ByteArray), .int .i64 5, .int .i64 8] 23 (0, 0)) (by (with_reducible repeat (first | refine blk_drewN ?_ _ | refine blk_drew ?_ | refine blk_alloc ?_ _)); refine blk_far ?_ NB128_133.out _; (with_reducible repeat (first | refine blk_drewN ?_ _ | refine blk_drew ?_ | refine blk_alloc ?_ _)); refine blk_far ?_ NB128_133.out _; (with_reducible repeat (first | refine blk_drewN ?_ _ | refine blk_drew ?_ | refine blk_alloc ?_ _)); refine blk_far ?_ NB128_133.out _; (with_reducible repeat (first | refine blk_drewN ?_ _ | refine blk_drew ?_ | refine blk_alloc ?_ _)); exact BK128.out) hb); have n1_ := Aside0.mk (blk_below (g := gb133) (o := .cells #[.int .i64 t129, .int .i64 t130, .int .i64 t131] 26 (0, 0)) (by (with_reducible repeat (first | refine blk_drewN ?_ _ | refine blk_drew ?_ | refine blk_alloc ?_ _)); refine blk_put (cs := #[.int .i64 t129, .int .i64 t130, .int .i64 0]) ?_ 2 _ rfl; (with_reducible repeat (first | refine blk_drewN ?_ _ | refine blk_drew ?_ | refine blk_alloc ?_ _)); refine blk_put (cs := #[.int .i64 t129, .int .i64 0, .int .i64 0]) ?_ 1 _ rfl; (with_reducible repeat (first | refine blk_drewN ?_ _ | refine blk_drew ?_ | refine blk_alloc ?_ _)); refine blk_put (cs := #[.int .i64 0, .int .i64 0, .int .i64 0]) ?_ 0 _ rfl; (with_reducible repeat (first | refine blk_drewN ?_ _ | refine blk_drew ?_ | refine blk_alloc ?_ _)); exact BK133.out) hb); have n2_ := Aside0.mk (below_step (by repeat (first | (with_reducible first | exact HB.out | apply below_alloc | apply pw_below_drewN | apply below_drew1 | refine below_set ?_ GE128.out | refine below_set ?_ GE133.out) | exact HB.out)) hb); clear BK128; clear BK133; clear HB; have BK128 := n0_; have BK133 := n1_; have HB := n2_; clear n0_ n1_ n2_; (try clear hb); (try clear hb2); (try clear hk); (try clear hi); have hcz31_0 : w30.cell? ⟨gb128, 0, none⟩ = some (.string (⟨#[]⟩ : ByteArray)) := (blk_cell BK128.out 0).trans rfl; have hcz31_1 : w30.cell? ⟨gb128, 1, none⟩ = some (.int .i64 5) := (blk_cell BK128.out 1).trans rfl; have hcz31_2 : w30.cell? ⟨gb128, 2, none⟩ = some (.int .i64 8) := (blk_cell BK128.out 2).trans rfl; have hfz31_0 := blk_frozen BK128.out 0; have hfz31_1 := blk_frozen BK128.out 1; have hfz31_2 := blk_frozen BK128.out 2) | (go_at_call 16; (with_reducible refine (pfair_Overlaps.calls k (⟨#[]⟩ : ByteArray) 5 8 5 false _ A6.out).mono ?_); rintro e w32 ⟨rfl, hb⟩; have n0_ := Aside0.mk (blk_below (g := gb128) (o := .cells #[.string (⟨#[]⟩ : ByteArray), .int .i64 5, .int .i64 8] 23 (0, 0)) (by (with_reducible repeat (first | refine blk_drewN ?_ _ | refine blk_drew ?_ | refine blk_alloc ?_ _)); exact BK128.out) hb); have n1_ := Aside0.mk (blk_below (g := gb133) (o := .cells #[.int .i64 t129, .int .i64 t130, .int .i64 t131] 26 (0, 0)) (by (with_reducible repeat (first | refine blk_drewN ?_ _ | refine blk_drew ?_ | refine blk_alloc ?_ _)); exact BK133.out) hb); have n2_ := Aside0.mk (below_step (by repeat (first | (with_reducible first | exact HB.out | apply below_alloc | apply pw_below_drewN | apply below_drew1 | refine below_set ?_ GE128.out | refine below_set ?_ GE133.out) | exact HB.out)) hb); clear BK128; clear BK133; clear HB; have BK128 := n0_; have BK133 := n1_; have HB := n2_; clear n0_ n1_ n2_; (try clear hb); (try clear hb2); (try clear hk); (try clear hi); have hcz33_0 : w32.cell? ⟨gb128, 0, none⟩ = some (.string (⟨#[]⟩ : ByteArray)) := (blk_cell BK128.out 0).trans rfl; have hcz33_1 : w32.cell? ⟨gb128, 1, none⟩ = some (.int .i64 5) := (blk_cell BK128.out 1).trans rfl; have hcz33_2 : w32.cell? ⟨gb128, 2, none⟩ = some (.int .i64 8) := (blk_cell BK128.out 2).trans rfl; have hfz33_0 := blk_frozen BK128.out 0; have hfz33_1 := blk_frozen BK128.out 1; have hfz33_2 := blk_frozen BK128.out 2) | (go_at_call 17; (with_reducible refine (pfair_Group.calls k (⟨#[]⟩ : ByteArray) 5 8 1 t136 _ A18.out).mono ?_); rintro e w34 ⟨rfl, hb⟩; have n0_ := Aside0.mk (blk_below (g := gb128) (o := .cells #[.string (⟨#[]⟩ : ByteArray), .int .i64 5, .int .i64 8] 23 (0, 0)) (by (with_reducible repeat (first | refine blk_drewN ?_ _ | refine blk_drew ?_ | refine blk_alloc ?_ _)); exact BK128.out) hb); have n1_ := Aside0.mk (blk_below (g := gb133) (o := .cells #[.int .i64 t129, .int .i64 t130, .int .i64 t131] 26 (0, 0)) (by (with_reducible repeat (first | refine blk_drewN ?_ _ | refine blk_drew ?_ | refine blk_alloc ?_ _)); exact BK133.out) hb); have n2_ := Aside0.mk (below_step (by repeat (first | (with_reducible first | exact HB.out | apply below_alloc | apply pw_below_drewN | apply below_drew1 | refine below_set ?_ GE128.out | refine below_set ?_ GE133.out) | exact HB.out)) hb); clear BK128; clear BK133; clear HB; have BK128 := n0_; have BK133 := n1_; have HB := n2_; clear n0_ n1_ n2_; (try clear hb); (try clear hb2); (try clear hk); (try clear hi); have hcz35_0 : w34.cell? ⟨gb128, 0, none⟩ = some (.string (⟨#[]⟩ : ByteArray)) := (blk_cell BK128.out 0).trans rfl; have hcz35_1 : w34.cell? ⟨gb128, 1, none⟩ = some (.int .i64 5) := (blk_cell BK128.out 1).trans rfl; have hcz35_2 : w34.cell? ⟨gb128, 2, none⟩ = some (.int .i64 8) := (blk_cell BK128.out 2).trans rfl; have hfz35_0 := blk_frozen BK128.out 0; have hfz35_1 := blk_frozen BK128.out 1; have hfz35_2 := blk_frozen BK128.out 2) | (go_at_call 17; (with_reducible refine (pfair_Group.calls k (⟨#[]⟩ : ByteArray) 5 8 3 t137 _ A20.out).mono ?_); rintro e w36 ⟨rfl, hb⟩; have n0_ := Aside0.mk (blk_below (g := gb128) (o := .cells #[.string (⟨#[]⟩ : ByteArray), .int .i64 5, .int .i64 8] 23 (0, 0)) (by (with_reducible repeat (first | refine blk_drewN ?_ _ | refine blk_drew ?_ | refine blk_alloc ?_ _)); exact BK128.out) hb); have n1_ := Aside0.mk (blk_below (g := gb133) (o := .cells #[.int .i64 t129, .int .i64 t130, .int .i64 t131] 26 (0, 0)) (by (with_reducible repeat (first | refine blk_drewN ?_ _ | refine blk_drew ?_ | refine blk_alloc ?_ _)); exact BK133.out) hb); have n2_ := Aside0.mk (below_step (by repeat (first | (with_reducible first | exact HB.out | apply below_alloc | apply pw_below_drewN | apply below_drew1 | refine below_set ?_ GE128.out | refine below_set ?_ GE133.out) | exact HB.out)) hb); clear BK128; clear BK133; clear HB; have BK128 := n0_; have BK133 := n1_; have HB := n2_; clear n0_ n1_ n2_; (try clear hb); (try clear hb2); (try clear hk); (try clear hi); have hcz37_0 : w36.cell? ⟨gb128, 0, none⟩ = some (.string (⟨#[]⟩ : ByteArray)) := (blk_cell BK128.out 0).trans rfl; have hcz37_1 : w36.cell? ⟨gb128, 1, none⟩ = some (.int .i64 5) := (blk_cell BK128.out 1).trans rfl; have hcz37_2 : w36.cell? ⟨gb128, 2, none⟩ = some (.int .i64 8) := (blk_cell BK128.out 2).trans rfl; have hfz37_0 := blk_frozen BK128.out 0; have hfz37_1 := blk_frozen BK128.out 1; have hfz37_2 := blk_frozen BK128.out 2) | (go_at_call 14; (with_reducible refine (pfair_Heavy.calls k (⟨#[]⟩ : ByteArray) 5 8 t138 _ A22.out).mono ?_); rintro e w38 ⟨rfl, hb⟩; have n0_ := Aside0.mk (blk_below (g := gb128) (o := .cells #[.string (⟨#[]⟩ : ByteArray), .int .i64 5, .int .i64 8] 23 (0, 0)) (by (with_reducible repeat (first | refine blk_drewN ?_ _ | refine blk_drew ?_ | refine blk_alloc ?_ _)); exact BK128.out) hb); have n1_ := Aside0.mk (blk_below (g := gb133) (o := .cells #[.int .i64 t129, .int .i64 t130, .int .i64 t131] 26 (0, 0)) (by (with_reducible repeat (first | refine blk_drewN ?_ _ | refine blk_drew ?_ | refine blk_alloc ?_ _)); exact BK133.out) hb); have n2_ := Aside0.mk (below_step (by repeat (first | (with_reducible first | exact HB.out | apply below_alloc | apply pw_below_drewN | apply below_drew1 | refine below_set ?_ GE128.out | refine below_set ?_ GE133.out) | exact HB.out)) hb); clear BK128; clear BK133; clear HB; have BK128 := n0_; have BK133 := n1_; have HB := n2_; clear n0_ n1_ n2_; (try clear hb); (try clear hb2); (try clear hk); (try clear hi)))
              go_ret
              exact ⟨by first | rfl | (simp [errW_none, errW_some] <;> rfl) | (simp [*, errW_none, errW_some] <;> rfl), by repeat (first | (with_reducible first | exact HB.out | apply below_alloc | apply pw_below_drewN | apply below_drew1 | refine below_set ?_ GE128.out | refine below_set ?_ GE133.out) | exact HB.out)⟩
            · rw [if_neg c21] at H
              have c21b0 : (t137 == 6) = false := beq_eq_false_iff_ne.mpr c21
              have c21b1 : (t137 != 6) = true := bne_iff_ne.mpr c21
              obtain rfl := Option.some.inj H
              go_enter Try.func11, Try.ntmps11
              go_wp2_with (first | ((with_reducible refine gate_dst (N := 1) rfl ?_); refine box_event ?hg (N := 1) ?hd (cs := #[.string (⟨#[]⟩ : ByteArray), .int .i64 0, .int .i64 0]) (t := 23) ?hr ?_; (case hd => rfl); (case hg => rfl); (case hr => first | (go_simp; done) | (go_simp; rfl)); intro gb128 hg w39 hbox hb; have n0_ := Aside0.mk (below_step (by repeat (first | (with_reducible first | exact HB.out | apply below_alloc | apply pw_below_drewN | apply below_drew1) | exact HB.out)) hb); have n1_ := Aside0.mk (hbox); have n2_ := Aside0.mk ((by rw [hg]; exact (below_size (by repeat (first | (with_reducible first | exact HB.out | apply below_alloc | apply pw_below_drewN | apply below_drew1) | exact HB.out))) : w.heap.size ≤ gb128)); have n3_ := Aside0.mk ((by rw [hg]; exact (below_size (by repeat (first | (with_reducible first | exact HB.out | apply below_alloc | apply pw_below_drewN | apply below_drew1) | exact HB.out))) : w.heap.size ≤ gb128)); clear HB; have HB := n0_; have BK128 := n1_; have GW128 := n2_; have GE128 := n3_; clear n0_ n1_ n2_ n3_; clear hb hbox hg; have hcz40_0 : w39.cell? ⟨gb128, 0, none⟩ = some (.string (⟨#[]⟩ : ByteArray)) := (blk_cell BK128.out 0).trans rfl; have hcz40_1 : w39.cell? ⟨gb128, 1, none⟩ = some (.int .i64 0) := (blk_cell BK128.out 1).trans rfl; have hcz40_2 : w39.cell? ⟨gb128, 2, none⟩ = some (.int .i64 0) := (blk_cell BK128.out 2).trans rfl; have hfz40_0 := blk_frozen BK128.out 0; have hfz40_1 := blk_frozen BK128.out 1; have hfz40_2 := blk_frozen BK128.out 2) | ((with_reducible refine gate_callee (f := 12) rfl ?_); refine goesL_ (some 7) rfl rfl Try.func12 (by kernel_rfl) rfl #[.agg #[.string (⟨#[]⟩ : ByteArray), .int .i64 5, .int .i64 8], .int .i64 2] rfl (by (try simp only [List.map_toArray, List.map_cons, List.map_nil]); first | done | rfl | (simp only [List.length_drop, List.length_take]; rfl)) ?_; (with_reducible refine (pfair_Window.calls k (⟨#[]⟩ : ByteArray) 5 8 2 t129 t130 t131 t132 _ A1.out).mono ?_); rintro e w41 ⟨rfl, hb⟩; refine ⟨_, rfl, ?_⟩; have n0_ := Aside0.mk (blk_below (g := gb128) (o := .cells #[.string (⟨#[]⟩ : ByteArray), .int .i64 5, .int .i64 8] 23 (0, 0)) (by (with_reducible repeat (first | refine blk_drewN ?_ _ | refine blk_drew ?_ | refine blk_alloc ?_ _)); refine blk_put (cs := #[.string (⟨#[]⟩ : ByteArray), .int .i64 5, .int .i64 0]) ?_ 2 _ rfl; (with_reducible repeat (first | refine blk_drewN ?_ _ | refine blk_drew ?_ | refine blk_alloc ?_ _)); refine blk_put (cs := #[.string (⟨#[]⟩ : ByteArray), .int .i64 0, .int .i64 0]) ?_ 1 _ rfl; (with_reducible repeat (first | refine blk_drewN ?_ _ | refine blk_drew ?_ | refine blk_alloc ?_ _)); refine blk_put (cs := #[.string (⟨#[]⟩ : ByteArray), .int .i64 0, .int .i64 0]) ?_ 0 _ rfl; (with_reducible repeat (first | refine blk_drewN ?_ _ | refine blk_drew ?_ | refine blk_alloc ?_ _)); exact BK128.out) hb); have n1_ := Aside0.mk (below_step (by repeat (first | (with_reducible first | exact HB.out | apply below_alloc | apply pw_below_drewN | apply below_drew1 | refine below_set ?_ GE128.out) | exact HB.out)) hb); clear BK128; clear HB; have BK128 := n0_; have HB := n1_; clear n0_ n1_; (try clear hb); (try clear hb2); (try clear hk); (try clear hi)) | ((with_reducible refine gate_dst (N := 2) rfl ?_); refine box_event ?hg (N := 2) ?hd (cs := #[.int .i64 0, .int .i64 0, .int .i64 0]) (t := 26) ?hr ?_; (case hd => rfl); (case hg => rfl); (case hr => first | (go_simp; done) | (go_simp; rfl)); intro gb133 hg w42 hbox hb; have n0_ := Aside0.mk (blk_below (g := gb128) (o := .cells #[.string (⟨#[]⟩ : ByteArray), .int .i64 5, .int .i64 8] 23 (0, 0)) (by (with_reducible repeat (first | refine blk_drewN ?_ _ | refine blk_drew ?_ | refine blk_alloc ?_ _)); exact BK128.out) hb); have n1_ := Aside0.mk (below_step (by repeat (first | (with_reducible first | exact HB.out | apply below_alloc | apply pw_below_drewN | apply below_drew1 | refine below_set ?_ GE128.out) | exact HB.out)) hb); have n2_ := Aside0.mk (hbox); have n3_ := Aside0.mk ((by rw [hg]; exact (below_size (by repeat (first | (with_reducible first | exact HB.out | apply below_alloc | apply pw_below_drewN | apply below_drew1 | refine below_set ?_ GE128.out) | exact HB.out))) : w.heap.size ≤ gb133)); have n4_ := Aside0.mk ((by rw [hg]; exact (below_size (by repeat (first | (with_reducible first | exact HB.out | apply below_alloc | apply pw_below_drewN | apply below_drew1 | refine below_set ?_ GE128.out) | exact HB.out))) : w.heap.size ≤ gb133)); have n5_ := Aside0.mk ((by rw [hg]; exact Nat.ne_of_lt (blk_lt (g := gb128) (o := .cells #[.string (⟨#[]⟩ : ByteArray), .int .i64 5, .int .i64 8] 23 (0, 0)) (by (with_reducible repeat (first | refine blk_drewN ?_ _ | refine blk_drew ?_ | refine blk_alloc ?_ _)); exact BK128.out)) : gb128 ≠ gb133)); have n6_ := Aside0.mk ((by rw [hg]; exact Nat.ne_of_gt (blk_lt (g := gb128) (o := .cells #[.string (⟨#[]⟩ : ByteArray), .int .i64 5, .int .i64 8] 23 (0, 0)) (by (with_reducible repeat (first | refine blk_drewN ?_ _ | refine blk_drew ?_ | refine blk_alloc ?_ _)); exact BK128.out)) : gb133 ≠ gb128)); clear BK128; clear HB; have BK128 := n0_; have HB := n1_; have BK133 := n2_; have GW133 := n3_; have GE133 := n4_; have NB128_133 := n5_; have NB133_128 := n6_; clear n0_ n1_ n2_ n3_ n4_ n5_ n6_; clear hb hbox hg; have hnb43 := NB133_128.out; have hnc43 := NB128_133.out; have hcz44_0 : w42.cell? ⟨gb133, 0, none⟩ = some (.int .i64 0) := (blk_cell BK133.out 0).trans rfl; have hcz44_1 : w42.cell? ⟨gb133, 1, none⟩ = some (.int .i64 0) := (blk_cell BK133.out 1).trans rfl; have hcz44_2 : w42.cell? ⟨gb133, 2, none⟩ = some (.int .i64 0) := (blk_cell BK133.out 2).trans rfl; have hfz44_0 := blk_frozen BK133.out 0; have hfz44_1 := blk_frozen BK133.out 1; have hfz44_2 := blk_frozen BK133.out 2; have hcz45_0 : w42.cell? ⟨gb128, 0, none⟩ = some (.string (⟨#[]⟩ : ByteArray)) := (blk_cell BK128.out 0).trans rfl; have hcz45_1 : w42.cell? ⟨gb128, 1, none⟩ = some (.int .i64 5) := (blk_cell BK128.out 1).trans rfl; have hcz45_2 : w42.cell? ⟨gb128, 2, none⟩ = some (.int .i64 8) := (blk_cell BK128.out 2).trans rfl; have hfz45_0 := blk_frozen BK128.out 0; have hfz45_1 := blk_frozen BK128.out 1; have hfz45_2 := blk_frozen BK128.out 2) | (go_at_call 16; (with_reducible refine (pfair_Overlaps.calls k (⟨#[]⟩ : ByteArray) 5 8 4 true _ A4.out).mono ?_); rintro e w46 ⟨rfl, hb⟩; have n0_ := Aside0.mk (blk_below (g := gb128) (o := .cells #[.string (⟨#[]⟩ : ByteArray), .int .i64 5, .int .i64 8] 23 (0, 0)) (by (with_reducible repeat (first | refine blk_drewN ?_ _ | refine blk_drew ?_ | refine blk_alloc ?_ _)); refine blk_far ?_ NB128_133.out _; (with_reducible repeat (first | refine blk_drewN ?_ _ | refine blk_drew ?_ | refine blk_alloc ?_ _)); refine blk_far ?_ NB128_133.out _; (with_reducible repeat (first | refine blk_drewN ?_ _ | refine blk_drew ?_ | refine blk_alloc ?_ _)); refine blk_far ?_ NB128_133.out _; (with_reducible repeat (first | refine blk_drewN ?_ _ | refine blk_drew ?_ | refine blk_alloc ?_ _)); exact BK128.out) hb); have n1_ := Aside0.mk (blk_below (g := gb133) (o := .cells #[.int .i64 t129, .int .i64 t130, .int .i64 t131] 26 (0, 0)) (by (with_reducible repeat (first | refine blk_drewN ?_ _ | refine blk_drew ?_ | refine blk_alloc ?_ _)); refine blk_put (cs := #[.int .i64 t129, .int .i64 t130, .int .i64 0]) ?_ 2 _ rfl; (with_reducible repeat (first | refine blk_drewN ?_ _ | refine blk_drew ?_ | refine blk_alloc ?_ _)); refine blk_put (cs := #[.int .i64 t129, .int .i64 0, .int .i64 0]) ?_ 1 _ rfl; (with_reducible repeat (first | refine blk_drewN ?_ _ | refine blk_drew ?_ | refine blk_alloc ?_ _)); refine blk_put (cs := #[.int .i64 0, .int .i64 0, .int .i64 0]) ?_ 0 _ rfl; (with_reducible repeat (first | refine blk_drewN ?_ _ | refine blk_drew ?_ | refine blk_alloc ?_ _)); exact BK133.out) hb); have n2_ := Aside0.mk (below_step (by repeat (first | (with_reducible first | exact HB.out | apply below_alloc | apply pw_below_drewN | apply below_drew1 | refine below_set ?_ GE128.out | refine below_set ?_ GE133.out) | exact HB.out)) hb); clear BK128; clear BK133; clear HB; have BK128 := n0_; have BK133 := n1_; have HB := n2_; clear n0_ n1_ n2_; (try clear hb); (try clear hb2); (try clear hk); (try clear hi); have hcz47_0 : w46.cell? ⟨gb128, 0, none⟩ = some (.string (⟨#[]⟩ : ByteArray)) := (blk_cell BK128.out 0).trans rfl; have hcz47_1 : w46.cell? ⟨gb128, 1, none⟩ = some (.int .i64 5) := (blk_cell BK128.out 1).trans rfl; have hcz47_2 : w46.cell? ⟨gb128, 2, none⟩ = some (.int .i64 8) := (blk_cell BK128.out 2).trans rfl; have hfz47_0 := blk_frozen BK128.out 0; have hfz47_1 := blk_frozen BK128.out 1; have hfz47_2 := blk_frozen BK128.out 2) | (go_at_call 16; (with_reducible refine (pfair_Overlaps.calls k (⟨#[]⟩ : ByteArray) 5 8 5 false _ A6.out).mono ?_); rintro e w48 ⟨rfl, hb⟩; have n0_ := Aside0.mk (blk_below (g := gb128) (o := .cells #[.string (⟨#[]⟩ : ByteArray), .int .i64 5, .int .i64 8] 23 (0, 0)) (by (with_reducible repeat (first | refine blk_drewN ?_ _ | refine blk_drew ?_ | refine blk_alloc ?_ _)); exact BK128.out) hb); have n1_ := Aside0.mk (blk_below (g := gb133) (o := .cells #[.int .i64 t129, .int .i64 t130, .int .i64 t131] 26 (0, 0)) (by (with_reducible repeat (first | refine blk_drewN ?_ _ | refine blk_drew ?_ | refine blk_alloc ?_ _)); exact BK133.out) hb); have n2_ := Aside0.mk (below_step (by repeat (first | (with_reducible first | exact HB.out | apply below_alloc | apply pw_below_drewN | apply below_drew1 | refine below_set ?_ GE128.out | refine below_set ?_ GE133.out) | exact HB.out)) hb); clear BK128; clear BK133; clear HB; have BK128 := n0_; have BK133 := n1_; have HB := n2_; clear n0_ n1_ n2_; (try clear hb); (try clear hb2); (try clear hk); (try clear hi); have hcz49_0 : w48.cell? ⟨gb128, 0, none⟩ = some (.string (⟨#[]⟩ : ByteArray)) := (blk_cell BK128.out 0).trans rfl; have hcz49_1 : w48.cell? ⟨gb128, 1, none⟩ = some (.int .i64 5) := (blk_cell BK128.out 1).trans rfl; have hcz49_2 : w48.cell? ⟨gb128, 2, none⟩ = some (.int .i64 8) := (blk_cell BK128.out 2).trans rfl; have hfz49_0 := blk_frozen BK128.out 0; have hfz49_1 := blk_frozen BK128.out 1; have hfz49_2 := blk_frozen BK128.out 2) | (go_at_call 17; (with_reducible refine (pfair_Group.calls k (⟨#[]⟩ : ByteArray) 5 8 1 t136 _ A18.out).mono ?_); rintro e w50 ⟨rfl, hb⟩; have n0_ := Aside0.mk (blk_below (g := gb128) (o := .cells #[.string (⟨#[]⟩ : ByteArray), .int .i64 5, .int .i64 8] 23 (0, 0)) (by (with_reducible repeat (first | refine blk_drewN ?_ _ | refine blk_drew ?_ | refine blk_alloc ?_ _)); exact BK128.out) hb); have n1_ := Aside0.mk (blk_below (g := gb133) (o := .cells #[.int .i64 t129, .int .i64 t130, .int .i64 t131] 26 (0, 0)) (by (with_reducible repeat (first | refine blk_drewN ?_ _ | refine blk_drew ?_ | refine blk_alloc ?_ _)); exact BK133.out) hb); have n2_ := Aside0.mk (below_step (by repeat (first | (with_reducible first | exact HB.out | apply below_alloc | apply pw_below_drewN | apply below_drew1 | refine below_set ?_ GE128.out | refine below_set ?_ GE133.out) | exact HB.out)) hb); clear BK128; clear BK133; clear HB; have BK128 := n0_; have BK133 := n1_; have HB := n2_; clear n0_ n1_ n2_; (try clear hb); (try clear hb2); (try clear hk); (try clear hi); have hcz51_0 : w50.cell? ⟨gb128, 0, none⟩ = some (.string (⟨#[]⟩ : ByteArray)) := (blk_cell BK128.out 0).trans rfl; have hcz51_1 : w50.cell? ⟨gb128, 1, none⟩ = some (.int .i64 5) := (blk_cell BK128.out 1).trans rfl; have hcz51_2 : w50.cell? ⟨gb128, 2, none⟩ = some (.int .i64 8) := (blk_cell BK128.out 2).trans rfl; have hfz51_0 := blk_frozen BK128.out 0; have hfz51_1 := blk_frozen BK128.out 1; have hfz51_2 := blk_frozen BK128.out 2) | (go_at_call 17; (with_reducible refine (pfair_Group.calls k (⟨#[]⟩ : ByteArray) 5 8 3 t137 _ A20.out).mono ?_); rintro e w52 ⟨rfl, hb⟩; have n0_ := Aside0.mk (blk_below (g := gb128) (o := .cells #[.string (⟨#[]⟩ : ByteArray), .int .i64 5, .int .i64 8] 23 (0, 0)) (by (with_reducible repeat (first | refine blk_drewN ?_ _ | refine blk_drew ?_ | refine blk_alloc ?_ _)); exact BK128.out) hb); have n1_ := Aside0.mk (blk_below (g := gb133) (o := .cells #[.int .i64 t129, .int .i64 t130, .int .i64 t131] 26 (0, 0)) (by (with_reducible repeat (first | refine blk_drewN ?_ _ | refine blk_drew ?_ | refine blk_alloc ?_ _)); exact BK133.out) hb); have n2_ := Aside0.mk (below_step (by repeat (first | (with_reducible first | exact HB.out | apply below_alloc | apply pw_below_drewN | apply below_drew1 | refine below_set ?_ GE128.out | refine below_set ?_ GE133.out) | exact HB.out)) hb); clear BK128; clear BK133; clear HB; have BK128 := n0_; have BK133 := n1_; have HB := n2_; clear n0_ n1_ n2_; (try clear hb); (try clear hb2); (try clear hk); (try clear hi)))
              go_ret
              exact ⟨by first | rfl | (simp [errW_none, errW_some] <;> rfl) | (simp [*, errW_none, errW_some] <;> rfl), by repeat (first | (with_reducible first | exact HB.out | apply below_alloc | apply pw_below_drewN | apply below_drew1 | refine below_set ?_ GE128.out | refine below_set ?_ GE133.out) | exact HB.out)⟩
          · rw [if_neg c19] at H
            have c19b0 : (t136 == 3) = false := beq_eq_false_iff_ne.mpr c19
            have c19b1 : (t136 != 3) = true := bne_iff_ne.mpr c19
            obtain rfl := Option.some.inj H
            go_enter Try.func11, Try.ntmps11
            go_wp2_with (first | ((with_reducible refine gate_dst (N := 1) rfl ?_); refine box_event ?hg (N := 1) ?hd (cs := #[.string (⟨#[]⟩ : ByteArray), .int .i64 0, .int .i64 0]) (t := 23) ?hr ?_; (case hd => rfl); (case hg => rfl); (case hr => first | (go_simp; done) | (go_simp; rfl)); intro gb128 hg w53 hbox hb; have n0_ := Aside0.mk (below_step (by repeat (first | (with_reducible first | exact HB.out | apply below_alloc | apply pw_below_drewN | apply below_drew1) | exact HB.out)) hb); have n1_ := Aside0.mk (hbox); have n2_ := Aside0.mk ((by rw [hg]; exact (below_size (by repeat (first | (with_reducible first | exact HB.out | apply below_alloc | apply pw_below_drewN | apply below_drew1) | exact HB.out))) : w.heap.size ≤ gb128)); have n3_ := Aside0.mk ((by rw [hg]; exact (below_size (by repeat (first | (with_reducible first | exact HB.out | apply below_alloc | apply pw_below_drewN | apply below_drew1) | exact HB.out))) : w.heap.size ≤ gb128)); clear HB; have HB := n0_; have BK128 := n1_; have GW128 := n2_; have GE128 := n3_; clear n0_ n1_ n2_ n3_; clear hb hbox hg; have hcz54_0 : w53.cell? ⟨gb128, 0, none⟩ = some (.string (⟨#[]⟩ : ByteArray)) := (blk_cell BK128.out 0).trans rfl; have hcz54_1 : w53.cell? ⟨gb128, 1, none⟩ = some (.int .i64 0) := (blk_cell BK128.out 1).trans rfl; have hcz54_2 : w53.cell? ⟨gb128, 2, none⟩ = some (.int .i64 0) := (blk_cell BK128.out 2).trans rfl; have hfz54_0 := blk_frozen BK128.out 0; have hfz54_1 := blk_frozen BK128.out 1; have hfz54_2 := blk_frozen BK128.out 2) | ((with_reducible refine gate_callee (f := 12) rfl ?_); refine goesL_ (some 7) rfl rfl Try.func12 (by kernel_rfl) rfl #[.agg #[.string (⟨#[]⟩ : ByteArray), .int .i64 5, .int .i64 8], .int .i64 2] rfl (by (try simp only [List.map_toArray, List.map_cons, List.map_nil]); first | done | rfl | (simp only [List.length_drop, List.length_take]; rfl)) ?_; (with_reducible refine (pfair_Window.calls k (⟨#[]⟩ : ByteArray) 5 8 2 t129 t130 t131 t132 _ A1.out).mono ?_); rintro e w55 ⟨rfl, hb⟩; refine ⟨_, rfl, ?_⟩; have n0_ := Aside0.mk (blk_below (g := gb128) (o := .cells #[.string (⟨#[]⟩ : ByteArray), .int .i64 5, .int .i64 8] 23 (0, 0)) (by (with_reducible repeat (first | refine blk_drewN ?_ _ | refine blk_drew ?_ | refine blk_alloc ?_ _)); refine blk_put (cs := #[.string (⟨#[]⟩ : ByteArray), .int .i64 5, .int .i64 0]) ?_ 2 _ rfl; (with_reducible repeat (first | refine blk_drewN ?_ _ | refine blk_drew ?_ | refine blk_alloc ?_ _)); refine blk_put (cs := #[.string (⟨#[]⟩ : ByteArray), .int .i64 0, .int .i64 0]) ?_ 1 _ rfl; (with_reducible repeat (first | refine blk_drewN ?_ _ | refine blk_drew ?_ | refine blk_alloc ?_ _)); refine blk_put (cs := #[.string (⟨#[]⟩ : ByteArray), .int .i64 0, .int .i64 0]) ?_ 0 _ rfl; (with_reducible repeat (first | refine blk_drewN ?_ _ | refine blk_drew ?_ | refine blk_alloc ?_ _)); exact BK128.out) hb); have n1_ := Aside0.mk (below_step (by repeat (first | (with_reducible first | exact HB.out | apply below_alloc | apply pw_below_drewN | apply below_drew1 | refine below_set ?_ GE128.out) | exact HB.out)) hb); clear BK128; clear HB; have BK128 := n0_; have HB := n1_; clear n0_ n1_; (try clear hb); (try clear hb2); (try clear hk); (try clear hi)) | ((with_reducible refine gate_dst (N := 2) rfl ?_); refine box_event ?hg (N := 2) ?hd (cs := #[.int .i64 0, .int .i64 0, .int .i64 0]) (t := 26) ?hr ?_; (case hd => rfl); (case hg => rfl); (case hr => first | (go_simp; done) | (go_simp; rfl)); intro gb133 hg w56 hbox hb; have n0_ := Aside0.mk (blk_below (g := gb128) (o := .cells #[.string (⟨#[]⟩ : ByteArray), .int .i64 5, .int .i64 8] 23 (0, 0)) (by (with_reducible repeat (first | refine blk_drewN ?_ _ | refine blk_drew ?_ | refine blk_alloc ?_ _)); exact BK128.out) hb); have n1_ := Aside0.mk (below_step (by repeat (first | (with_reducible first | exact HB.out | apply below_alloc | apply pw_below_drewN | apply below_drew1 | refine below_set ?_ GE128.out) | exact HB.out)) hb); have n2_ := Aside0.mk (hbox); have n3_ := Aside0.mk ((by rw [hg]; exact (below_size (by repeat (first | (with_reducible first | exact HB.out | apply below_alloc | apply pw_below_drewN | apply below_drew1 | refine below_set ?_ GE128.out) | exact HB.out))) : w.heap.size ≤ gb133)); have n4_ := Aside0.mk ((by rw [hg]; exact (below_size (by repeat (first | (with_reducible first | exact HB.out | apply below_alloc | apply pw_below_drewN | apply below_drew1 | refine below_set ?_ GE128.out) | exact HB.out))) : w.heap.size ≤ gb133)); have n5_ := Aside0.mk ((by rw [hg]; exact Nat.ne_of_lt (blk_lt (g := gb128) (o := .cells #[.string (⟨#[]⟩ : ByteArray), .int .i64 5, .int .i64 8] 23 (0, 0)) (by (with_reducible repeat (first | refine blk_drewN ?_ _ | refine blk_drew ?_ | refine blk_alloc ?_ _)); exact BK128.out)) : gb128 ≠ gb133)); have n6_ := Aside0.mk ((by rw [hg]; exact Nat.ne_of_gt (blk_lt (g := gb128) (o := .cells #[.string (⟨#[]⟩ : ByteArray), .int .i64 5, .int .i64 8] 23 (0, 0)) (by (with_reducible repeat (first | refine blk_drewN ?_ _ | refine blk_drew ?_ | refine blk_alloc ?_ _)); exact BK128.out)) : gb133 ≠ gb128)); clear BK128; clear HB; have BK128 := n0_; have HB := n1_; have BK133 := n2_; have GW133 := n3_; have GE133 := n4_; have NB128_133 := n5_; have NB133_128 := n6_; clear n0_ n1_ n2_ n3_ n4_ n5_ n6_; clear hb hbox hg; have hnb57 := NB133_128.out; have hnc57 := NB128_133.out; have hcz58_0 : w56.cell? ⟨gb133, 0, none⟩ = some (.int .i64 0) := (blk_cell BK133.out 0).trans rfl; have hcz58_1 : w56.cell? ⟨gb133, 1, none⟩ = some (.int .i64 0) := (blk_cell BK133.out 1).trans rfl; have hcz58_2 : w56.cell? ⟨gb133, 2, none⟩ = some (.int .i64 0) := (blk_cell BK133.out 2).trans rfl; have hfz58_0 := blk_frozen BK133.out 0; have hfz58_1 := blk_frozen BK133.out 1; have hfz58_2 := blk_frozen BK133.out 2; have hcz59_0 : w56.cell? ⟨gb128, 0, none⟩ = some (.string (⟨#[]⟩ : ByteArray)) := (blk_cell BK128.out 0).trans rfl; have hcz59_1 : w56.cell? ⟨gb128, 1, none⟩ = some (.int .i64 5) := (blk_cell BK128.out 1).trans rfl; have hcz59_2 : w56.cell? ⟨gb128, 2, none⟩ = some (.int .i64 8) := (blk_cell BK128.out 2).trans rfl; have hfz59_0 := blk_frozen BK128.out 0; have hfz59_1 := blk_frozen BK128.out 1; have hfz59_2 := blk_frozen BK128.out 2) | (go_at_call 16; (with_reducible refine (pfair_Overlaps.calls k (⟨#[]⟩ : ByteArray) 5 8 4 true _ A4.out).mono ?_); rintro e w60 ⟨rfl, hb⟩; have n0_ := Aside0.mk (blk_below (g := gb128) (o := .cells #[.string (⟨#[]⟩ : ByteArray), .int .i64 5, .int .i64 8] 23 (0, 0)) (by (with_reducible repeat (first | refine blk_drewN ?_ _ | refine blk_drew ?_ | refine blk_alloc ?_ _)); refine blk_far ?_ NB128_133.out _; (with_reducible repeat (first | refine blk_drewN ?_ _ | refine blk_drew ?_ | refine blk_alloc ?_ _)); refine blk_far ?_ NB128_133.out _; (with_reducible repeat (first | refine blk_drewN ?_ _ | refine blk_drew ?_ | refine blk_alloc ?_ _)); refine blk_far ?_ NB128_133.out _; (with_reducible repeat (first | refine blk_drewN ?_ _ | refine blk_drew ?_ | refine blk_alloc ?_ _)); exact BK128.out) hb); have n1_ := Aside0.mk (blk_below (g := gb133) (o := .cells #[.int .i64 t129, .int .i64 t130, .int .i64 t131] 26 (0, 0)) (by (with_reducible repeat (first | refine blk_drewN ?_ _ | refine blk_drew ?_ | refine blk_alloc ?_ _)); refine blk_put (cs := #[.int .i64 t129, .int .i64 t130, .int .i64 0]) ?_ 2 _ rfl; (with_reducible repeat (first | refine blk_drewN ?_ _ | refine blk_drew ?_ | refine blk_alloc ?_ _)); refine blk_put (cs := #[.int .i64 t129, .int .i64 0, .int .i64 0]) ?_ 1 _ rfl; (with_reducible repeat (first | refine blk_drewN ?_ _ | refine blk_drew ?_ | refine blk_alloc ?_ _)); refine blk_put (cs := #[.int .i64 0, .int .i64 0, .int .i64 0]) ?_ 0 _ rfl; (with_reducible repeat (first | refine blk_drewN ?_ _ | refine blk_drew ?_ | refine blk_alloc ?_ _)); exact BK133.out) hb); have n2_ := Aside0.mk (below_step (by repeat (first | (with_reducible first | exact HB.out | apply below_alloc | apply pw_below_drewN | apply below_drew1 | refine below_set ?_ GE128.out | refine below_set ?_ GE133.out) | exact HB.out)) hb); clear BK128; clear BK133; clear HB; have BK128 := n0_; have BK133 := n1_; have HB := n2_; clear n0_ n1_ n2_; (try clear hb); (try clear hb2); (try clear hk); (try clear hi); have hcz61_0 : w60.cell? ⟨gb128, 0, none⟩ = some (.string (⟨#[]⟩ : ByteArray)) := (blk_cell BK128.out 0).trans rfl; have hcz61_1 : w60.cell? ⟨gb128, 1, none⟩ = some (.int .i64 5) := (blk_cell BK128.out 1).trans rfl; have hcz61_2 : w60.cell? ⟨gb128, 2, none⟩ = some (.int .i64 8) := (blk_cell BK128.out 2).trans rfl; have hfz61_0 := blk_frozen BK128.out 0; have hfz61_1 := blk_frozen BK128.out 1; have hfz61_2 := blk_frozen BK128.out 2) | (go_at_call 16; (with_reducible refine (pfair_Overlaps.calls k (⟨#[]⟩ : ByteArray) 5 8 5 false _ A6.out).mono ?_); rintro e w62 ⟨rfl, hb⟩; have n0_ := Aside0.mk (blk_below (g := gb128) (o := .cells #[.string (⟨#[]⟩ : ByteArray), .int .i64 5, .int .i64 8] 23 (0, 0)) (by (with_reducible repeat (first | refine blk_drewN ?_ _ | refine blk_drew ?_ | refine blk_alloc ?_ _)); exact BK128.out) hb); have n1_ := Aside0.mk (blk_below (g := gb133) (o := .cells #[.int .i64 t129, .int .i64 t130, .int .i64 t131] 26 (0, 0)) (by (with_reducible repeat (first | refine blk_drewN ?_ _ | refine blk_drew ?_ | refine blk_alloc ?_ _)); exact BK133.out) hb); have n2_ := Aside0.mk (below_step (by repeat (first | (with_reducible first | exact HB.out | apply below_alloc | apply pw_below_drewN | apply below_drew1 | refine below_set ?_ GE128.out | refine below_set ?_ GE133.out) | exact HB.out)) hb); clear BK128; clear BK133; clear HB; have BK128 := n0_; have BK133 := n1_; have HB := n2_; clear n0_ n1_ n2_; (try clear hb); (try clear hb2); (try clear hk); (try clear hi); have hcz63_0 : w62.cell? ⟨gb128, 0, none⟩ = some (.string (⟨#[]⟩ : ByteArray)) := (blk_cell BK128.out 0).trans rfl; have hcz63_1 : w62.cell? ⟨gb128, 1, none⟩ = some (.int .i64 5) := (blk_cell BK128.out 1).trans rfl; have hcz63_2 : w62.cell? ⟨gb128, 2, none⟩ = some (.int .i64 8) := (blk_cell BK128.out 2).trans rfl; have hfz63_0 := blk_frozen BK128.out 0; have hfz63_1 := blk_frozen BK128.out 1; have hfz63_2 := blk_frozen BK128.out 2) | (go_at_call 17; (with_reducible refine (pfair_Group.calls k (⟨#[]⟩ : ByteArray) 5 8 1 t136 _ A18.out).mono ?_); rintro e w64 ⟨rfl, hb⟩; have n0_ := Aside0.mk (blk_below (g := gb128) (o := .cells #[.string (⟨#[]⟩ : ByteArray), .int .i64 5, .int .i64 8] 23 (0, 0)) (by (with_reducible repeat (first | refine blk_drewN ?_ _ | refine blk_drew ?_ | refine blk_alloc ?_ _)); exact BK128.out) hb); have n1_ := Aside0.mk (blk_below (g := gb133) (o := .cells #[.int .i64 t129, .int .i64 t130, .int .i64 t131] 26 (0, 0)) (by (with_reducible repeat (first | refine blk_drewN ?_ _ | refine blk_drew ?_ | refine blk_alloc ?_ _)); exact BK133.out) hb); have n2_ := Aside0.mk (below_step (by repeat (first | (with_reducible first | exact HB.out | apply below_alloc | apply pw_below_drewN | apply below_drew1 | refine below_set ?_ GE128.out | refine below_set ?_ GE133.out) | exact HB.out)) hb); clear BK128; clear BK133; clear HB; have BK128 := n0_; have BK133 := n1_; have HB := n2_; clear n0_ n1_ n2_; (try clear hb); (try clear hb2); (try clear hk); (try clear hi)))
            go_ret
            exact ⟨by first | rfl | (simp [errW_none, errW_some] <;> rfl) | (simp [*, errW_none, errW_some] <;> rfl), by repeat (first | (with_reducible first | exact HB.out | apply below_alloc | apply pw_below_drewN | apply below_drew1 | refine below_set ?_ GE128.out | refine below_set ?_ GE133.out) | exact HB.out)⟩
      · replace c5 := Bool.eq_false_iff.mpr c5
        subst c5
        have H1 : (some false) = some r := by rw [if_neg (show ¬ (false = true) by decide)] at H; exact H
        clear H
        have H := H1
        clear H1
        obtain rfl := Option.some.inj H
        go_enter Try.func11, Try.ntmps11
        go_wp2_with (first | ((with_reducible refine gate_dst (N := 1) rfl ?_); refine box_event ?hg (N := 1) ?hd (cs := #[.string (⟨#[]⟩ : ByteArray), .int .i64 0, .int .i64 0]) (t := 23) ?hr ?_; (case hd => rfl); (case hg => rfl); (case hr => first | (go_simp; done) | (go_simp; rfl)); intro gb128 hg w65 hbox hb; have n0_ := Aside0.mk (below_step (by repeat (first | (with_reducible first | exact HB.out | apply below_alloc | apply pw_below_drewN | apply below_drew1) | exact HB.out)) hb); have n1_ := Aside0.mk (hbox); have n2_ := Aside0.mk ((by rw [hg]; exact (below_size (by repeat (first | (with_reducible first | exact HB.out | apply below_alloc | apply pw_below_drewN | apply below_drew1) | exact HB.out))) : w.heap.size ≤ gb128)); have n3_ := Aside0.mk ((by rw [hg]; exact (below_size (by repeat (first | (with_reducible first | exact HB.out | apply below_alloc | apply pw_below_drewN | apply below_drew1) | exact HB.out))) : w.heap.size ≤ gb128)); clear HB; have HB := n0_; have BK128 := n1_; have GW128 := n2_; have GE128 := n3_; clear n0_ n1_ n2_ n3_; clear hb hbox hg; have hcz66_0 : w65.cell? ⟨gb128, 0, none⟩ = some (.string (⟨#[]⟩ : ByteArray)) := (blk_cell BK128.out 0).trans rfl; have hcz66_1 : w65.cell? ⟨gb128, 1, none⟩ = some (.int .i64 0) := (blk_cell BK128.out 1).trans rfl; have hcz66_2 : w65.cell? ⟨gb128, 2, none⟩ = some (.int .i64 0) := (blk_cell BK128.out 2).trans rfl; have hfz66_0 := blk_frozen BK128.out 0; have hfz66_1 := blk_frozen BK128.out 1; have hfz66_2 := blk_frozen BK128.out 2) | ((with_reducible refine gate_callee (f := 12) rfl ?_); refine goesL_ (some 7) rfl rfl Try.func12 (by kernel_rfl) rfl #[.agg #[.string (⟨#[]⟩ : ByteArray), .int .i64 5, .int .i64 8], .int .i64 2] rfl (by (try simp only [List.map_toArray, List.map_cons, List.map_nil]); first | done | rfl | (simp only [List.length_drop, List.length_take]; rfl)) ?_; (with_reducible refine (pfair_Window.calls k (⟨#[]⟩ : ByteArray) 5 8 2 t129 t130 t131 t132 _ A1.out).mono ?_); rintro e w67 ⟨rfl, hb⟩; refine ⟨_, rfl, ?_⟩; have n0_ := Aside0.mk (blk_below (g := gb128) (o := .cells #[.string (⟨#[]⟩ : ByteArray), .int .i64 5, .int .i64 8] 23 (0, 0)) (by (with_reducible repeat (first | refine blk_drewN ?_ _ | refine blk_drew ?_ | refine blk_alloc ?_ _)); refine blk_put (cs := #[.string (⟨#[]⟩ : ByteArray), .int .i64 5, .int .i64 0]) ?_ 2 _ rfl; (with_reducible repeat (first | refine blk_drewN ?_ _ | refine blk_drew ?_ | refine blk_alloc ?_ _)); refine blk_put (cs := #[.string (⟨#[]⟩ : ByteArray), .int .i64 0, .int .i64 0]) ?_ 1 _ rfl; (with_reducible repeat (first | refine blk_drewN ?_ _ | refine blk_drew ?_ | refine blk_alloc ?_ _)); refine blk_put (cs := #[.string (⟨#[]⟩ : ByteArray), .int .i64 0, .int .i64 0]) ?_ 0 _ rfl; (with_reducible repeat (first | refine blk_drewN ?_ _ | refine blk_drew ?_ | refine blk_alloc ?_ _)); exact BK128.out) hb); have n1_ := Aside0.mk (below_step (by repeat (first | (with_reducible first | exact HB.out | apply below_alloc | apply pw_below_drewN | apply below_drew1 | refine below_set ?_ GE128.out) | exact HB.out)) hb); clear BK128; clear HB; have BK128 := n0_; have HB := n1_; clear n0_ n1_; (try clear hb); (try clear hb2); (try clear hk); (try clear hi)) | ((with_reducible refine gate_dst (N := 2) rfl ?_); refine box_event ?hg (N := 2) ?hd (cs := #[.int .i64 0, .int .i64 0, .int .i64 0]) (t := 26) ?hr ?_; (case hd => rfl); (case hg => rfl); (case hr => first | (go_simp; done) | (go_simp; rfl)); intro gb133 hg w68 hbox hb; have n0_ := Aside0.mk (blk_below (g := gb128) (o := .cells #[.string (⟨#[]⟩ : ByteArray), .int .i64 5, .int .i64 8] 23 (0, 0)) (by (with_reducible repeat (first | refine blk_drewN ?_ _ | refine blk_drew ?_ | refine blk_alloc ?_ _)); exact BK128.out) hb); have n1_ := Aside0.mk (below_step (by repeat (first | (with_reducible first | exact HB.out | apply below_alloc | apply pw_below_drewN | apply below_drew1 | refine below_set ?_ GE128.out) | exact HB.out)) hb); have n2_ := Aside0.mk (hbox); have n3_ := Aside0.mk ((by rw [hg]; exact (below_size (by repeat (first | (with_reducible first | exact HB.out | apply below_alloc | apply pw_below_drewN | apply below_drew1 | refine below_set ?_ GE128.out) | exact HB.out))) : w.heap.size ≤ gb133)); have n4_ := Aside0.mk ((by rw [hg]; exact (below_size (by repeat (first | (with_reducible first | exact HB.out | apply below_alloc | apply pw_below_drewN | apply below_drew1 | refine below_set ?_ GE128.out) | exact HB.out))) : w.heap.size ≤ gb133)); have n5_ := Aside0.mk ((by rw [hg]; exact Nat.ne_of_lt (blk_lt (g := gb128) (o := .cells #[.string (⟨#[]⟩ : ByteArray), .int .i64 5, .int .i64 8] 23 (0, 0)) (by (with_reducible repeat (first | refine blk_drewN ?_ _ | refine blk_drew ?_ | refine blk_alloc ?_ _)); exact BK128.out)) : gb128 ≠ gb133)); have n6_ := Aside0.mk ((by rw [hg]; exact Nat.ne_of_gt (blk_lt (g := gb128) (o := .cells #[.string (⟨#[]⟩ : ByteArray), .int .i64 5, .int .i64 8] 23 (0, 0)) (by (with_reducible repeat (first | refine blk_drewN ?_ _ | refine blk_drew ?_ | refine blk_alloc ?_ _)); exact BK128.out)) : gb133 ≠ gb128)); clear BK128; clear HB; have BK128 := n0_; have HB := n1_; have BK133 := n2_; have GW133 := n3_; have GE133 := n4_; have NB128_133 := n5_; have NB133_128 := n6_; clear n0_ n1_ n2_ n3_ n4_ n5_ n6_; clear hb hbox hg; have hnb69 := NB133_128.out; have hnc69 := NB128_133.out; have hcz70_0 : w68.cell? ⟨gb133, 0, none⟩ = some (.int .i64 0) := (blk_cell BK133.out 0).trans rfl; have hcz70_1 : w68.cell? ⟨gb133, 1, none⟩ = some (.int .i64 0) := (blk_cell BK133.out 1).trans rfl; have hcz70_2 : w68.cell? ⟨gb133, 2, none⟩ = some (.int .i64 0) := (blk_cell BK133.out 2).trans rfl; have hfz70_0 := blk_frozen BK133.out 0; have hfz70_1 := blk_frozen BK133.out 1; have hfz70_2 := blk_frozen BK133.out 2; have hcz71_0 : w68.cell? ⟨gb128, 0, none⟩ = some (.string (⟨#[]⟩ : ByteArray)) := (blk_cell BK128.out 0).trans rfl; have hcz71_1 : w68.cell? ⟨gb128, 1, none⟩ = some (.int .i64 5) := (blk_cell BK128.out 1).trans rfl; have hcz71_2 : w68.cell? ⟨gb128, 2, none⟩ = some (.int .i64 8) := (blk_cell BK128.out 2).trans rfl; have hfz71_0 := blk_frozen BK128.out 0; have hfz71_1 := blk_frozen BK128.out 1; have hfz71_2 := blk_frozen BK128.out 2) | (go_at_call 16; (with_reducible refine (pfair_Overlaps.calls k (⟨#[]⟩ : ByteArray) 5 8 4 false _ A4.out).mono ?_); rintro e w72 ⟨rfl, hb⟩; have n0_ := Aside0.mk (blk_below (g := gb128) (o := .cells #[.string (⟨#[]⟩ : ByteArray), .int .i64 5, .int .i64 8] 23 (0, 0)) (by (with_reducible repeat (first | refine blk_drewN ?_ _ | refine blk_drew ?_ | refine blk_alloc ?_ _)); refine blk_far ?_ NB128_133.out _; (with_reducible repeat (first | refine blk_drewN ?_ _ | refine blk_drew ?_ | refine blk_alloc ?_ _)); refine blk_far ?_ NB128_133.out _; (with_reducible repeat (first | refine blk_drewN ?_ _ | refine blk_drew ?_ | refine blk_alloc ?_ _)); refine blk_far ?_ NB128_133.out _; (with_reducible repeat (first | refine blk_drewN ?_ _ | refine blk_drew ?_ | refine blk_alloc ?_ _)); exact BK128.out) hb); have n1_ := Aside0.mk (blk_below (g := gb133) (o := .cells #[.int .i64 t129, .int .i64 t130, .int .i64 t131] 26 (0, 0)) (by (with_reducible repeat (first | refine blk_drewN ?_ _ | refine blk_drew ?_ | refine blk_alloc ?_ _)); refine blk_put (cs := #[.int .i64 t129, .int .i64 t130, .int .i64 0]) ?_ 2 _ rfl; (with_reducible repeat (first | refine blk_drewN ?_ _ | refine blk_drew ?_ | refine blk_alloc ?_ _)); refine blk_put (cs := #[.int .i64 t129, .int .i64 0, .int .i64 0]) ?_ 1 _ rfl; (with_reducible repeat (first | refine blk_drewN ?_ _ | refine blk_drew ?_ | refine blk_alloc ?_ _)); refine blk_put (cs := #[.int .i64 0, .int .i64 0, .int .i64 0]) ?_ 0 _ rfl; (with_reducible repeat (first | refine blk_drewN ?_ _ | refine blk_drew ?_ | refine blk_alloc ?_ _)); exact BK133.out) hb); have n2_ := Aside0.mk (below_step (by repeat (first | (with_reducible first | exact HB.out | apply below_alloc | apply pw_below_drewN | apply below_drew1 | refine below_set ?_ GE128.out | refine below_set ?_ GE133.out) | exact HB.out)) hb); clear BK128; clear BK133; clear HB; have BK128 := n0_; have BK133 := n1_; have HB := n2_; clear n0_ n1_ n2_; (try clear hb); (try clear hb2); (try clear hk); (try clear hi)))
        go_ret
        exact ⟨by first | rfl | (simp [errW_none, errW_some] <;> rfl) | (simp [*, errW_none, errW_some] <;> rfl), by repeat (first | (with_reducible first | exact HB.out | apply below_alloc | apply pw_below_drewN | apply below_drew1 | refine below_set ?_ GE128.out | refine below_set ?_ GE133.out) | exact HB.out)⟩
    · rw [if_neg c3] at H
      have c3b0 : (t129 == 2 && (t130 == 1 && (t131 == 4))) = false := by simpa using c3
      (try (have c3b1 : decide (t129 = 2 && (t130 == 1 && (t131 == 4))) = false := by simpa using c3))
      (try (have c3b2 : (t129 == 2 && (t130 == 1 && (t131 == 4))) = false := by simpa using c3))
      (try (have c3b3 : ¬ (t129 = 2 && (t130 == 1 && (t131 == 4))) := by simpa using c3))
      clear c3
      obtain rfl := Option.some.inj H
      go_enter Try.func11, Try.ntmps11
      go_wp2_with (first | ((with_reducible refine gate_dst (N := 1) rfl ?_); refine box_event ?hg (N := 1) ?hd (cs := #[.string (⟨#[]⟩ : ByteArray), .int .i64 0, .int .i64 0]) (t := 23) ?hr ?_; (case hd => rfl); (case hg => rfl); (case hr => first | (go_simp; done) | (go_simp; rfl)); intro gb128 hg w73 hbox hb; have n0_ := Aside0.mk (below_step (by repeat (first | (with_reducible first | exact HB.out | apply below_alloc | apply pw_below_drewN | apply below_drew1) | exact HB.out)) hb); have n1_ := Aside0.mk (hbox); have n2_ := Aside0.mk ((by rw [hg]; exact (below_size (by repeat (first | (with_reducible first | exact HB.out | apply below_alloc | apply pw_below_drewN | apply below_drew1) | exact HB.out))) : w.heap.size ≤ gb128)); have n3_ := Aside0.mk ((by rw [hg]; exact (below_size (by repeat (first | (with_reducible first | exact HB.out | apply below_alloc | apply pw_below_drewN | apply below_drew1) | exact HB.out))) : w.heap.size ≤ gb128)); clear HB; have HB := n0_; have BK128 := n1_; have GW128 := n2_; have GE128 := n3_; clear n0_ n1_ n2_ n3_; clear hb hbox hg; have hcz74_0 : w73.cell? ⟨gb128, 0, none⟩ = some (.string (⟨#[]⟩ : ByteArray)) := (blk_cell BK128.out 0).trans rfl; have hcz74_1 : w73.cell? ⟨gb128, 1, none⟩ = some (.int .i64 0) := (blk_cell BK128.out 1).trans rfl; have hcz74_2 : w73.cell? ⟨gb128, 2, none⟩ = some (.int .i64 0) := (blk_cell BK128.out 2).trans rfl; have hfz74_0 := blk_frozen BK128.out 0; have hfz74_1 := blk_frozen BK128.out 1; have hfz74_2 := blk_frozen BK128.out 2) | ((with_reducible refine gate_callee (f := 12) rfl ?_); refine goesL_ (some 7) rfl rfl Try.func12 (by kernel_rfl) rfl #[.agg #[.string (⟨#[]⟩ : ByteArray), .int .i64 5, .int .i64 8], .int .i64 2] rfl (by (try simp only [List.map_toArray, List.map_cons, List.map_nil]); first | done | rfl | (simp only [List.length_drop, List.length_take]; rfl)) ?_; (with_reducible refine (pfair_Window.calls k (⟨#[]⟩ : ByteArray) 5 8 2 t129 t130 t131 t132 _ A1.out).mono ?_); rintro e w75 ⟨rfl, hb⟩; refine ⟨_, rfl, ?_⟩; have n0_ := Aside0.mk (blk_below (g := gb128) (o := .cells #[.string (⟨#[]⟩ : ByteArray), .int .i64 5, .int .i64 8] 23 (0, 0)) (by (with_reducible repeat (first | refine blk_drewN ?_ _ | refine blk_drew ?_ | refine blk_alloc ?_ _)); refine blk_put (cs := #[.string (⟨#[]⟩ : ByteArray), .int .i64 5, .int .i64 0]) ?_ 2 _ rfl; (with_reducible repeat (first | refine blk_drewN ?_ _ | refine blk_drew ?_ | refine blk_alloc ?_ _)); refine blk_put (cs := #[.string (⟨#[]⟩ : ByteArray), .int .i64 0, .int .i64 0]) ?_ 1 _ rfl; (with_reducible repeat (first | refine blk_drewN ?_ _ | refine blk_drew ?_ | refine blk_alloc ?_ _)); refine blk_put (cs := #[.string (⟨#[]⟩ : ByteArray), .int .i64 0, .int .i64 0]) ?_ 0 _ rfl; (with_reducible repeat (first | refine blk_drewN ?_ _ | refine blk_drew ?_ | refine blk_alloc ?_ _)); exact BK128.out) hb); have n1_ := Aside0.mk (below_step (by repeat (first | (with_reducible first | exact HB.out | apply below_alloc | apply pw_below_drewN | apply below_drew1 | refine below_set ?_ GE128.out) | exact HB.out)) hb); clear BK128; clear HB; have BK128 := n0_; have HB := n1_; clear n0_ n1_; (try clear hb); (try clear hb2); (try clear hk); (try clear hi)) | ((with_reducible refine gate_dst (N := 2) rfl ?_); refine box_event ?hg (N := 2) ?hd (cs := #[.int .i64 0, .int .i64 0, .int .i64 0]) (t := 26) ?hr ?_; (case hd => rfl); (case hg => rfl); (case hr => first | (go_simp; done) | (go_simp; rfl)); intro gb133 hg w76 hbox hb; have n0_ := Aside0.mk (blk_below (g := gb128) (o := .cells #[.string (⟨#[]⟩ : ByteArray), .int .i64 5, .int .i64 8] 23 (0, 0)) (by (with_reducible repeat (first | refine blk_drewN ?_ _ | refine blk_drew ?_ | refine blk_alloc ?_ _)); exact BK128.out) hb); have n1_ := Aside0.mk (below_step (by repeat (first | (with_reducible first | exact HB.out | apply below_alloc | apply pw_below_drewN | apply below_drew1 | refine below_set ?_ GE128.out) | exact HB.out)) hb); have n2_ := Aside0.mk (hbox); have n3_ := Aside0.mk ((by rw [hg]; exact (below_size (by repeat (first | (with_reducible first | exact HB.out | apply below_alloc | apply pw_below_drewN | apply below_drew1 | refine below_set ?_ GE128.out) | exact HB.out))) : w.heap.size ≤ gb133)); have n4_ := Aside0.mk ((by rw [hg]; exact (below_size (by repeat (first | (with_reducible first | exact HB.out | apply below_alloc | apply pw_below_drewN | apply below_drew1 | refine below_set ?_ GE128.out) | exact HB.out))) : w.heap.size ≤ gb133)); have n5_ := Aside0.mk ((by rw [hg]; exact Nat.ne_of_lt (blk_lt (g := gb128) (o := .cells #[.string (⟨#[]⟩ : ByteArray), .int .i64 5, .int .i64 8] 23 (0, 0)) (by (with_reducible repeat (first | refine blk_drewN ?_ _ | refine blk_drew ?_ | refine blk_alloc ?_ _)); exact BK128.out)) : gb128 ≠ gb133)); have n6_ := Aside0.mk ((by rw [hg]; exact Nat.ne_of_gt (blk_lt (g := gb128) (o := .cells #[.string (⟨#[]⟩ : ByteArray), .int .i64 5, .int .i64 8] 23 (0, 0)) (by (with_reducible repeat (first | refine blk_drewN ?_ _ | refine blk_drew ?_ | refine blk_alloc ?_ _)); exact BK128.out)) : gb133 ≠ gb128)); clear BK128; clear HB; have BK128 := n0_; have HB := n1_; have BK133 := n2_; have GW133 := n3_; have GE133 := n4_; have NB128_133 := n5_; have NB133_128 := n6_; clear n0_ n1_ n2_ n3_ n4_ n5_ n6_; clear hb hbox hg; have hnb77 := NB133_128.out; have hnc77 := NB128_133.out; have hcz78_0 : w76.cell? ⟨gb133, 0, none⟩ = some (.int .i64 0) := (blk_cell BK133.out 0).trans rfl; have hcz78_1 : w76.cell? ⟨gb133, 1, none⟩ = some (.int .i64 0) := (blk_cell BK133.out 1).trans rfl; have hcz78_2 : w76.cell? ⟨gb133, 2, none⟩ = some (.int .i64 0) := (blk_cell BK133.out 2).trans rfl; have hfz78_0 := blk_frozen BK133.out 0; have hfz78_1 := blk_frozen BK133.out 1; have hfz78_2 := blk_frozen BK133.out 2))
      go_ret
      exact ⟨by first | rfl | (simp [errW_none, errW_some] <;> rfl) | (simp [*, errW_none, errW_some] <;> rfl), by repeat (first | (with_reducible first | exact HB.out | apply below_alloc | apply pw_below_drewN | apply below_drew1 | refine below_set ?_ GE128.out | refine below_set ?_ GE133.out) | exact HB.out)⟩
  · rw [if_neg c2] at H
    have c2b0 : (t132 == 0) = false := beq_eq_false_iff_ne.mpr c2
    have c2b1 : (t132 != 0) = true := bne_iff_ne.mpr c2
    obtain rfl := Option.some.inj H
    go_enter Try.func11, Try.ntmps11
    go_wp2_with (first | ((with_reducible refine gate_dst (N := 1) rfl ?_); refine box_event ?hg (N := 1) ?hd (cs := #[.string (⟨#[]⟩ : ByteArray), .int .i64 0, .int .i64 0]) (t := 23) ?hr ?_; (case hd => rfl); (case hg => rfl); (case hr => first | (go_simp; done) | (go_simp; rfl)); intro gb128 hg w79 hbox hb; have n0_ := Aside0.mk (below_step (by repeat (first | (with_reducible first | exact HB.out | apply below_alloc | apply pw_below_drewN | apply below_drew1) | exact HB.out)) hb); have n1_ := Aside0.mk (hbox); have n2_ := Aside0.mk ((by rw [hg]; exact (below_size (by repeat (first | (with_reducible first | exact HB.out | apply below_alloc | apply pw_below_drewN | apply below_drew1) | exact HB.out))) : w.heap.size ≤ gb128)); have n3_ := Aside0.mk ((by rw [hg]; exact (below_size (by repeat (first | (with_reducible first | exact HB.out | apply below_alloc | apply pw_below_drewN | apply below_drew1) | exact HB.out))) : w.heap.size ≤ gb128)); clear HB; have HB := n0_; have BK128 := n1_; have GW128 := n2_; have GE128 := n3_; clear n0_ n1_ n2_ n3_; clear hb hbox hg; have hcz80_0 : w79.cell? ⟨gb128, 0, none⟩ = some (.string (⟨#[]⟩ : ByteArray)) := (blk_cell BK128.out 0).trans rfl; have hcz80_1 : w79.cell? ⟨gb128, 1, none⟩ = some (.int .i64 0) := (blk_cell BK128.out 1).trans rfl; have hcz80_2 : w79.cell? ⟨gb128, 2, none⟩ = some (.int .i64 0) := (blk_cell BK128.out 2).trans rfl; have hfz80_0 := blk_frozen BK128.out 0; have hfz80_1 := blk_frozen BK128.out 1; have hfz80_2 := blk_frozen BK128.out 2) | ((with_reducible refine gate_callee (f := 12) rfl ?_); refine goesL_ (some 7) rfl rfl Try.func12 (by kernel_rfl) rfl #[.agg #[.string (⟨#[]⟩ : ByteArray), .int .i64 5, .int .i64 8], .int .i64 2] rfl (by (try simp only [List.map_toArray, List.map_cons, List.map_nil]); first | done | rfl | (simp only [List.length_drop, List.length_take]; rfl)) ?_; (with_reducible refine (pfair_Window.calls k (⟨#[]⟩ : ByteArray) 5 8 2 t129 t130 t131 t132 _ A1.out).mono ?_); rintro e w81 ⟨rfl, hb⟩; refine ⟨_, rfl, ?_⟩; have n0_ := Aside0.mk (blk_below (g := gb128) (o := .cells #[.string (⟨#[]⟩ : ByteArray), .int .i64 5, .int .i64 8] 23 (0, 0)) (by (with_reducible repeat (first | refine blk_drewN ?_ _ | refine blk_drew ?_ | refine blk_alloc ?_ _)); refine blk_put (cs := #[.string (⟨#[]⟩ : ByteArray), .int .i64 5, .int .i64 0]) ?_ 2 _ rfl; (with_reducible repeat (first | refine blk_drewN ?_ _ | refine blk_drew ?_ | refine blk_alloc ?_ _)); refine blk_put (cs := #[.string (⟨#[]⟩ : ByteArray), .int .i64 0, .int .i64 0]) ?_ 1 _ rfl; (with_reducible repeat (first | refine blk_drewN ?_ _ | refine blk_drew ?_ | refine blk_alloc ?_ _)); refine blk_put (cs := #[.string (⟨#[]⟩ : ByteArray), .int .i64 0, .int .i64 0]) ?_ 0 _ rfl; (with_reducible repeat (first | refine blk_drewN ?_ _ | refine blk_drew ?_ | refine blk_alloc ?_ _)); exact BK128.out) hb); have n1_ := Aside0.mk (below_step (by repeat (first | (with_reducible first | exact HB.out | apply below_alloc | apply pw_below_drewN | apply below_drew1 | refine below_set ?_ GE128.out) | exact HB.out)) hb); clear BK128; clear HB; have BK128 := n0_; have HB := n1_; clear n0_ n1_; (try clear hb); (try clear hb2); (try clear hk); (try clear hi)) | ((with_reducible refine gate_dst (N := 2) rfl ?_); refine box_event ?hg (N := 2) ?hd (cs := #[.int .i64 0, .int .i64 0, .int .i64 0]) (t := 26) ?hr ?_; (case hd => rfl); (case hg => rfl); (case hr => first | (go_simp; done) | (go_simp; rfl)); intro gb133 hg w82 hbox hb; have n0_ := Aside0.mk (blk_below (g := gb128) (o := .cells #[.string (⟨#[]⟩ : ByteArray), .int .i64 5, .int .i64 8] 23 (0, 0)) (by (with_reducible repeat (first | refine blk_drewN ?_ _ | refine blk_drew ?_ | refine blk_alloc ?_ _)); exact BK128.out) hb); have n1_ := Aside0.mk (below_step (by repeat (first | (with_reducible first | exact HB.out | apply below_alloc | apply pw_below_drewN | apply below_drew1 | refine below_set ?_ GE128.out) | exact HB.out)) hb); have n2_ := Aside0.mk (hbox); have n3_ := Aside0.mk ((by rw [hg]; exact (below_size (by repeat (first | (with_reducible first | exact HB.out | apply below_alloc | apply pw_below_drewN | apply below_drew1 | refine below_set ?_ GE128.out) | exact HB.out))) : w.heap.size ≤ gb133)); have n4_ := Aside0.mk ((by rw [hg]; exact (below_size (by repeat (first | (with_reducible first | exact HB.out | apply below_alloc | apply pw_below_drewN | apply below_drew1 | refine below_set ?_ GE128.out) | exact HB.out))) : w.heap.size ≤ gb133)); have n5_ := Aside0.mk ((by rw [hg]; exact Nat.ne_of_lt (blk_lt (g := gb128) (o := .cells #[.string (⟨#[]⟩ : ByteArray), .int .i64 5, .int .i64 8] 23 (0, 0)) (by (with_reducible repeat (first | refine blk_drewN ?_ _ | refine blk_drew ?_ | refine blk_alloc ?_ _)); exact BK128.out)) : gb128 ≠ gb133)); have n6_ := Aside0.mk ((by rw [hg]; exact Nat.ne_of_gt (blk_lt (g := gb128) (o := .cells #[.string (⟨#[]⟩ : ByteArray), .int .i64 5, .int .i64 8] 23 (0, 0)) (by (with_reducible repeat (first | refine blk_drewN ?_ _ | refine blk_drew ?_ | refine blk_alloc ?_ _)); exact BK128.out)) : gb133 ≠ gb128)); clear BK128; clear HB; have BK128 := n0_; have HB := n1_; have BK133 := n2_; have GW133 := n3_; have GE133 := n4_; have NB128_133 := n5_; have NB133_128 := n6_; clear n0_ n1_ n2_ n3_ n4_ n5_ n6_; clear hb hbox hg; have hnb83 := NB133_128.out; have hnc83 := NB128_133.out; have hcz84_0 : w82.cell? ⟨gb133, 0, none⟩ = some (.int .i64 0) := (blk_cell BK133.out 0).trans rfl; have hcz84_1 : w82.cell? ⟨gb133, 1, none⟩ = some (.int .i64 0) := (blk_cell BK133.out 1).trans rfl; have hcz84_2 : w82.cell? ⟨gb133, 2, none⟩ = some (.int .i64 0) := (blk_cell BK133.out 2).trans rfl; have hfz84_0 := blk_frozen BK133.out 0; have hfz84_1 := blk_frozen BK133.out 1; have hfz84_2 := blk_frozen BK133.out 2))
    go_ret
    exact ⟨by first | rfl | (simp [errW_none, errW_some] <;> rfl) | (simp [*, errW_none, errW_some] <;> rfl), by repeat (first | (with_reducible first | exact HB.out | apply below_alloc | apply pw_below_drewN | apply below_drew1 | refine below_set ?_ GE128.out | refine below_set ?_ GE133.out) | exact HB.out)⟩

/-! ### ontimeref45_Valid: function 13 -/
def ontimeref45_Valid.f (a0 : Int) (a1 : Int) : Option (Bool) := if a0 ≥ 1 then (if a0 ≤ a1 then (some (decide (a1 ≤ 1000))) else (some false)) else (some false)
set_option maxHeartbeats 8000000 in
set_option maxRecDepth 100000 in
theorem ontimeref45_Valid.calls (a0 : Int) (a1 : Int) (r : Bool) (w : World) (h : ontimeref45_Valid.f a0 a1 = some r) :
    Calls Try.prog 13 #[.int .i64 a0, .int .i64 a1] w fun e w' => e = .returned (.bool r) ∧ Drawn0 w w' := by
  have H : (if a0 ≥ 1 then (if a0 ≤ a1 then (some (decide (a1 ≤ 1000))) else (some false)) else (some false)) = some r := h
  clear h
  by_cases c3 : a0 ≥ 1
  · rw [if_pos c3] at H
    have c3b0 : decide (1 ≤ a0) = true := decide_eq_true c3
    clear c3
    by_cases c4 : a0 ≤ a1
    · rw [if_pos c4] at H
      have c4b0 : decide (a0 ≤ a1) = true := decide_eq_true c4
      clear c4
      obtain rfl := Option.some.inj H
      go_enter Try.func13, Try.ntmps13
      go_wp2
      go_ret
      exact ⟨by first | rfl | (simp; done) | (simp [*]; done), by repeat (first | exact Drawn0.refl _ | apply Drawn0.step)⟩
    · rw [if_neg c4] at H
      have c4b0 : decide (a0 ≤ a1) = false := decide_eq_false c4
      clear c4
      obtain rfl := Option.some.inj H
      go_enter Try.func13, Try.ntmps13
      go_wp2
      go_ret
      exact ⟨by first | rfl | (simp; done) | (simp [*]; done), by repeat (first | exact Drawn0.refl _ | apply Drawn0.step)⟩
  · rw [if_neg c3] at H
    have c3b0 : decide (1 ≤ a0) = false := decide_eq_false c3
    clear c3
    obtain rfl := Option.some.inj H
    go_enter Try.func13, Try.ntmps13
    go_wp2
    go_ret
    exact ⟨by first | rfl | (simp; done) | (simp [*]; done), by repeat (first | exact Drawn0.refl _ | apply Drawn0.step)⟩

/-! ### ontimeref45_Heavy: function 15 -/
def ontimeref45_Heavy.f (a0 : Int) (a1 : Int) : Option (Bool) := if a0 < a1 then (some (decide ((wrap64 (2 * a0)) ≥ a1))) else (some false)
set_option maxHeartbeats 8000000 in
set_option maxRecDepth 100000 in
theorem ontimeref45_Heavy.calls (a0 : Int) (a1 : Int) (r : Bool) (w : World) (h : ontimeref45_Heavy.f a0 a1 = some r) :
    Calls Try.prog 15 #[.int .i64 a0, .int .i64 a1] w fun e w' => e = .returned (.bool r) ∧ Drawn0 w w' := by
  have H : (if a0 < a1 then (some (decide ((wrap64 (2 * a0)) ≥ a1))) else (some false)) = some r := h
  clear h
  by_cases c3 : a0 < a1
  · rw [if_pos c3] at H
    have c3b0 : decide (a0 < a1) = true := decide_eq_true c3
    clear c3
    obtain rfl := Option.some.inj H
    go_enter Try.func15, Try.ntmps15
    go_wp2
    go_ret
    exact ⟨by first | rfl | (simp; done) | (simp [*]; done), by repeat (first | exact Drawn0.refl _ | apply Drawn0.step)⟩
  · rw [if_neg c3] at H
    have c3b0 : decide (a0 < a1) = false := decide_eq_false c3
    clear c3
    obtain rfl := Option.some.inj H
    go_enter Try.func15, Try.ntmps15
    go_wp2
    go_ret
    exact ⟨by first | rfl | (simp; done) | (simp [*]; done), by repeat (first | exact Drawn0.refl _ | apply Drawn0.step)⟩

/-! ### ontimeref45_Window: function 18 -/
def ontimeref45_Window.f (a0 : Int) (a1 : Int) (a2 : Int) : Option (Int × Int) := if a0 = 0 then (none) else (some (wrap64 (Int.tdiv (wrap64 ((wrap64 (a2 - 1)) * a1)) a0), wrap64 (Int.tdiv (wrap64 ((wrap64 ((wrap64 (a2 * a1)) + a0)) - 1)) a0)))
set_option maxHeartbeats 8000000 in
set_option maxRecDepth 100000 in
theorem ontimeref45_Window.calls (a0 : Int) (a1 : Int) (a2 : Int) (r1 : Int) (r2 : Int) (w : World) (h : ontimeref45_Window.f a0 a1 a2 = some (r1, r2)) :
    Calls Try.prog 18 #[.int .i64 a0, .int .i64 a1, .int .i64 a2] w fun e w' => e = .returned (.tuple #[.int .i64 r1, .int .i64 r2]) ∧ Drawn0 w w' := by
  have H : (if a0 = 0 then (none) else (some (wrap64 (Int.tdiv (wrap64 ((wrap64 (a2 - 1)) * a1)) a0), wrap64 (Int.tdiv (wrap64 ((wrap64 ((wrap64 (a2 * a1)) + a0)) - 1)) a0)))) = some (r1, r2) := h
  clear h
  by_cases c4 : a0 = 0
  · rw [if_pos c4] at H
    exact absurd H (by simp)
  · rw [if_neg c4] at H
    have c4b0 : (a0 == 0) = false := beq_eq_false_iff_ne.mpr c4
    have c4b1 : (a0 != 0) = true := bne_iff_ne.mpr c4
    simp only [Option.some.injEq, Prod.mk.injEq] at H
    obtain ⟨rfl, rfl⟩ := H
    go_enter Try.func18, Try.ntmps18
    go_wp2
    repeat (go_quiet (fail); try go_wp2)
    go_ret2
    exact ⟨by first | rfl | (simp; done) | (simp [*]; done), by repeat (first | exact Drawn0.refl _ | apply Drawn0.step)⟩

/-! ### ontimeref45_Overlaps: function 19 -/
def ontimeref45_Overlaps.f (a0 : Int) (a1 : Int) (a2 : Int) : Option (Bool) := if a0 = 0 then (none) else (some ((Int.tmod (wrap64 (a2 * a1)) a0) != 0))
set_option maxHeartbeats 8000000 in
set_option maxRecDepth 100000 in
theorem ontimeref45_Overlaps.calls (a0 : Int) (a1 : Int) (a2 : Int) (r : Bool) (w : World) (h : ontimeref45_Overlaps.f a0 a1 a2 = some r) :
    Calls Try.prog 19 #[.int .i64 a0, .int .i64 a1, .int .i64 a2] w fun e w' => e = .returned (.bool r) ∧ Drawn0 w w' := by
  have H : (if a0 = 0 then (none) else (some ((Int.tmod (wrap64 (a2 * a1)) a0) != 0))) = some r := h
  clear h
  by_cases c4 : a0 = 0
  · rw [if_pos c4] at H
    exact absurd H (by simp)
  · rw [if_neg c4] at H
    have c4b0 : (a0 == 0) = false := beq_eq_false_iff_ne.mpr c4
    have c4b1 : (a0 != 0) = true := bne_iff_ne.mpr c4
    obtain rfl := Option.some.inj H
    go_enter Try.func19, Try.ntmps19
    go_wp2
    go_ret
    exact ⟨by first | rfl | (simp; done) | (simp [*]; done), by repeat (first | exact Drawn0.refl _ | apply Drawn0.step)⟩

/-! ### ontimeref45_Group: function 20 -/
mutual
def ontimeref45_Group.l0 : Nat → Int → Int → Int → Option (Int)
  | 0, _, _, _ => none
  | k + 1, x0, x1, x9 => if x9 ≤ x1 then (ontimeref45_Group.l1 k x0 x1 x9 1) else (some x1)
def ontimeref45_Group.l1 : Nat → Int → Int → Int → Int → Option (Int)
  | 0, _, _, _, _ => none
  | k + 1, x0, x1, x9, x10 => if x10 ≤ x0 then ((ontimeref45_Window.f x0 x1 x10).bind fun bt142 => (if x9 = bt142.2 then ((ontimeref45_Overlaps.f x0 x1 x10).bind fun t144 => (if t144 = true then (if (wrap64 (x9 + 1)) = bt142.2 then (if (wrap64 (bt142.2 - bt142.1)) = 3 then (some x9) else (ontimeref45_Group.l1 k x0 x1 x9 (wrap64 (x10 + 1)))) else (ontimeref45_Group.l1 k x0 x1 x9 (wrap64 (x10 + 1)))) else (some x9))) else (if (wrap64 (x9 + 1)) = bt142.2 then (if (wrap64 (bt142.2 - bt142.1)) = 3 then (some x9) else (ontimeref45_Group.l1 k x0 x1 x9 (wrap64 (x10 + 1)))) else (ontimeref45_Group.l1 k x0 x1 x9 (wrap64 (x10 + 1)))))) else (ontimeref45_Group.l0 k x0 x1 (wrap64 (x9 + 1)))
end
def ontimeref45_Group.f (k : Nat) (a0 : Int) (a1 : Int) (a2 : Int) : Option (Int) := (ontimeref45_Heavy.f a0 a1).bind fun t139 => (if t139 = true then ((ontimeref45_Window.f a0 a1 a2).bind fun bt140 => (ontimeref45_Group.l0 k a0 a1 bt140.2)) else (some 0))
theorem ontimeref45_Group.mono_l : ∀ k, (∀ y0 y1 y2, LeO (ontimeref45_Group.l0 k y0 y1 y2) (ontimeref45_Group.l0 (k + 1) y0 y1 y2)) ∧ (∀ y0 y1 y2 y3, LeO (ontimeref45_Group.l1 k y0 y1 y2 y3) (ontimeref45_Group.l1 (k + 1) y0 y1 y2 y3))
  | 0 => ⟨fun _ _ _ r h => by simp [ontimeref45_Group.l0] at h, fun _ _ _ _ r h => by simp [ontimeref45_Group.l1] at h⟩
  | k + 1 => by
    obtain ⟨ih0, ih1⟩ := ontimeref45_Group.mono_l k
    refine ⟨?_, ?_⟩
    · intro y0 y1 y2
      unfold ontimeref45_Group.l0
      repeat' first
      | (with_reducible exact ih0 _ _ _)
      | (with_reducible exact ih1 _ _ _ _)
      | (with_reducible exact LeO.refl _)
      | (with_reducible exact LeO.none _)
      | (with_reducible refine LeO.ite ?_ ?_)
      | (with_reducible refine LeO.bind ?_ (fun _ => ?_))
      | exact ih0 _ _ _
      | exact ih1 _ _ _ _
      | exact LeO.none _
      | refine LeO.ite ?_ ?_
      | refine LeO.bind ?_ (fun _ => ?_)
    · intro y0 y1 y2 y3
      unfold ontimeref45_Group.l1
      repeat' first
      | (with_reducible exact ih0 _ _ _)
      | (with_reducible exact ih1 _ _ _ _)
      | (with_reducible exact LeO.refl _)
      | (with_reducible exact LeO.none _)
      | (with_reducible refine LeO.ite ?_ ?_)
      | (with_reducible refine LeO.bind ?_ (fun _ => ?_))
      | exact ih0 _ _ _
      | exact ih1 _ _ _ _
      | exact LeO.none _
      | refine LeO.ite ?_ ?_
      | refine LeO.bind ?_ (fun _ => ?_)
theorem ontimeref45_Group.mono : ∀ a0 a1 a2 k, LeO (ontimeref45_Group.f k a0 a1 a2) (ontimeref45_Group.f (k + 1) a0 a1 a2) := by
  intro a0 a1 a2 k
  obtain ⟨ih0, ih1⟩ := ontimeref45_Group.mono_l k
  unfold ontimeref45_Group.f
  repeat' first
      | (with_reducible exact ih0 _ _ _)
      | (with_reducible exact ih1 _ _ _ _)
      | (with_reducible exact LeO.refl _)
      | (with_reducible exact LeO.none _)
      | (with_reducible refine LeO.ite ?_ ?_)
      | (with_reducible refine LeO.bind ?_ (fun _ => ?_))
      | exact ih0 _ _ _
      | exact ih1 _ _ _ _
      | exact LeO.none _
      | refine LeO.ite ?_ ?_
      | refine LeO.bind ?_ (fun _ => ?_)
set_option maxHeartbeats 8000000 in
set_option maxRecDepth 100000 in
theorem ontimeref45_Group.calls (k : Nat) (a0 : Int) (a1 : Int) (a2 : Int) (r : Int) (w : World) (h : ontimeref45_Group.f k a0 a1 a2 = some r) :
    Calls Try.prog 20 #[.int .i64 a0, .int .i64 a1, .int .i64 a2] w fun e w' => e = .returned (.int .i64 r) ∧ Drawn0 w w' := by
  have H : ((ontimeref45_Heavy.f a0 a1).bind fun t139 => (if t139 = true then ((ontimeref45_Window.f a0 a1 a2).bind fun bt140 => (ontimeref45_Group.l0 k a0 a1 bt140.2)) else (some 0))) = some r := h
  clear h
  replace H := Option.bind_eq_some_iff.mp H
  obtain ⟨t139, A40, H⟩ := H
  replace H : (if t139 = true then ((ontimeref45_Window.f a0 a1 a2).bind fun bt140 => (ontimeref45_Group.l0 k a0 a1 bt140.2)) else (some 0)) = some r := H
  have A4 := Aside0.mk A40
  clear A40
  by_cases c5 : t139 = true
  · subst c5
    have H1 : ((ontimeref45_Window.f a0 a1 a2).bind fun bt140 => (ontimeref45_Group.l0 k a0 a1 bt140.2)) = some r := by rw [if_pos rfl] at H; exact H
    clear H
    have H := H1
    clear H1
    replace H := Option.bind_eq_some_iff.mp H
    obtain ⟨⟨t140, t141⟩, A60, H⟩ := H
    replace H : (ontimeref45_Group.l0 k a0 a1 t141) = some r := H
    have A6 := Aside0.mk A60
    clear A60
    have H' := Aside0.mk H
    clear H
    go_enter Try.func20, Try.ntmps20
    go_wp2_with (first | ((with_reducible refine gate_callee (f := 15) rfl ?_); refine goesL_ (some 15) rfl rfl Try.func15 (by kernel_rfl) rfl #[.int .i64 a0, .int .i64 a1] rfl (by (try simp only [List.map_toArray, List.map_cons, List.map_nil]); first | done | rfl | (simp only [List.length_drop, List.length_take]; rfl)) ?_; (with_reducible refine (ontimeref45_Heavy.calls a0 a1 true _ A4.out).mono ?_); rintro e w' ⟨rfl, ⟨nd, rfl⟩⟩; refine ⟨_, rfl, ?_⟩) | ((with_reducible refine gate_callee (f := 18) rfl ?_); refine goesL_ (some 21) rfl rfl Try.func18 (by kernel_rfl) rfl #[.int .i64 a0, .int .i64 a1, .int .i64 a2] rfl (by (try simp only [List.map_toArray, List.map_cons, List.map_nil]); first | done | rfl | (simp only [List.length_drop, List.length_take]; rfl)) ?_; (with_reducible refine (ontimeref45_Window.calls a0 a1 a2 t140 t141 _ A6.out).mono ?_); rintro e w' ⟨rfl, ⟨nd, rfl⟩⟩; refine ⟨_, rfl, ?_⟩))
    go_loopg [9] k (fun kq v9 w' => ∃ (x9_1 : Int), v9 = .int .i64 x9_1 ∧ Aside0 (ontimeref45_Group.l0 kq a0 a1 x9_1 = some r) ∧ Aside0 (kq ≤ k) ∧ Drawn0 w w')
    case atStart => exact ⟨(t141), (by first | rfl | (simp; done) | (simp [*]; done)), H', ⟨Nat.le_refl _⟩, by repeat (first | exact Drawn0.refl _ | apply Drawn0.step)⟩
    case round =>
      clear H'
      try clear c1
      try clear c2
      try clear p2
      try clear c5
      obtain ⟨x9_1, rfl, HA, HK1, ⟨m1, rfl⟩⟩ := hrel
      cases gk with
      | zero => exact absurd HA.out (by simp [ontimeref45_Group.l0])
      | succ k1 =>
        have H := HA.out
        clear HA
        simp only [ontimeref45_Group.l0] at H
        by_cases c7 : x9_1 ≤ a1
        · rw [if_pos c7] at H
          have c7b0 : decide (x9_1 ≤ a1) = true := decide_eq_true c7
          clear c7
          have H' := Aside0.mk H
          clear H
          go_wp2
          go_loopg [10] k1 (fun kq v10 w' => ∃ (x10_2 : Int), v10 = .int .i64 x10_2 ∧ Aside0 (ontimeref45_Group.l1 kq a0 a1 x9_1 x10_2 = some r) ∧ Aside0 (kq ≤ k1) ∧ Drawn0 w w')
          case atStart => exact ⟨(1), (by first | rfl | (simp; done) | (simp [*]; done)), H', ⟨Nat.le_refl _⟩, by repeat (first | exact Drawn0.refl _ | apply Drawn0.step)⟩
          case round =>
            clear H'
            try clear c1
            try clear c2
            try clear p2
            try clear c5
            try clear c7
            try clear c7b0
            try clear p2
            obtain ⟨x10_2, rfl, HA, HK2, ⟨m2, rfl⟩⟩ := hrel
            cases gk with
            | zero => exact absurd HA.out (by simp [ontimeref45_Group.l1])
            | succ k2 =>
              have H := HA.out
              clear HA
              simp only [ontimeref45_Group.l1] at H
              by_cases c8 : x10_2 ≤ a0
              · rw [if_pos c8] at H
                have c8b0 : decide (x10_2 ≤ a0) = true := decide_eq_true c8
                clear c8
                replace H := Option.bind_eq_some_iff.mp H
                obtain ⟨⟨t142, t143⟩, A90, H⟩ := H
                replace H : (if x9_1 = t143 then ((ontimeref45_Overlaps.f a0 a1 x10_2).bind fun t144 => (if t144 = true then (if (wrap64 (x9_1 + 1)) = t143 then (if (wrap64 (t143 - t142)) = 3 then (some x9_1) else (ontimeref45_Group.l1 k2 a0 a1 x9_1 (wrap64 (x10_2 + 1)))) else (ontimeref45_Group.l1 k2 a0 a1 x9_1 (wrap64 (x10_2 + 1)))) else (some x9_1))) else (if (wrap64 (x9_1 + 1)) = t143 then (if (wrap64 (t143 - t142)) = 3 then (some x9_1) else (ontimeref45_Group.l1 k2 a0 a1 x9_1 (wrap64 (x10_2 + 1)))) else (ontimeref45_Group.l1 k2 a0 a1 x9_1 (wrap64 (x10_2 + 1))))) = some r := H
                have A9 := Aside0.mk A90
                clear A90
                by_cases c10 : x9_1 = t143
                · rw [if_pos c10] at H
                  have c10b0 : (x9_1 == t143) = true := beq_iff_eq.mpr c10
                  have c10b1 : (x9_1 != t143) = false := bne_eq_false_iff_eq.mpr c10
                  clear c10
                  replace H := Option.bind_eq_some_iff.mp H
                  obtain ⟨t144, A110, H⟩ := H
                  replace H : (if t144 = true then (if (wrap64 (x9_1 + 1)) = t143 then (if (wrap64 (t143 - t142)) = 3 then (some x9_1) else (ontimeref45_Group.l1 k2 a0 a1 x9_1 (wrap64 (x10_2 + 1)))) else (ontimeref45_Group.l1 k2 a0 a1 x9_1 (wrap64 (x10_2 + 1)))) else (some x9_1)) = some r := H
                  have A11 := Aside0.mk A110
                  clear A110
                  by_cases c12 : t144 = true
                  · subst c12
                    have H1 : (if (wrap64 (x9_1 + 1)) = t143 then (if (wrap64 (t143 - t142)) = 3 then (some x9_1) else (ontimeref45_Group.l1 k2 a0 a1 x9_1 (wrap64 (x10_2 + 1)))) else (ontimeref45_Group.l1 k2 a0 a1 x9_1 (wrap64 (x10_2 + 1)))) = some r := by rw [if_pos rfl] at H; exact H
                    clear H
                    have H := H1
                    clear H1
                    by_cases c13 : (wrap64 (x9_1 + 1)) = t143
                    · rw [if_pos c13] at H
                      have c13b0 : ((wrap64 (x9_1 + 1)) == t143) = true := beq_iff_eq.mpr c13
                      have c13b1 : ((wrap64 (x9_1 + 1)) != t143) = false := bne_eq_false_iff_eq.mpr c13
                      clear c13
                      by_cases c14 : (wrap64 (t143 - t142)) = 3
                      · rw [if_pos c14] at H
                        have c14b0 : ((wrap64 (t143 - t142)) == 3) = true := beq_iff_eq.mpr c14
                        have c14b1 : ((wrap64 (t143 - t142)) != 3) = false := bne_eq_false_iff_eq.mpr c14
                        clear c14
                        obtain rfl := Option.some.inj H
                        go_wp2_with (first | ((with_reducible refine gate_callee (f := 18) rfl ?_); refine goesL_ (some 39) rfl rfl Try.func18 (by kernel_rfl) rfl #[.int .i64 a0, .int .i64 a1, .int .i64 x10_2] rfl (by (try simp only [List.map_toArray, List.map_cons, List.map_nil]); first | done | rfl | (simp only [List.length_drop, List.length_take]; rfl)) ?_; (with_reducible refine (ontimeref45_Window.calls a0 a1 x10_2 t142 t143 _ A9.out).mono ?_); rintro e w' ⟨rfl, ⟨nd, rfl⟩⟩; refine ⟨_, rfl, ?_⟩) | (go_at_call 19; (with_reducible refine (ontimeref45_Overlaps.calls a0 a1 x10_2 true _ A11.out).mono ?_); rintro e w' ⟨rfl, ⟨nd, rfl⟩⟩))
                        go_ret
                        exact ⟨by first | rfl | (simp; done) | (simp [*]; done), by repeat (first | exact Drawn0.refl _ | apply Drawn0.step)⟩
                      · rw [if_neg c14] at H
                        have c14b0 : ((wrap64 (t143 - t142)) == 3) = false := beq_eq_false_iff_ne.mpr c14
                        have c14b1 : ((wrap64 (t143 - t142)) != 3) = true := bne_iff_ne.mpr c14
                        have H' := Aside0.mk H
                        clear H
                        go_wp2_with (first | ((with_reducible refine gate_callee (f := 18) rfl ?_); refine goesL_ (some 39) rfl rfl Try.func18 (by kernel_rfl) rfl #[.int .i64 a0, .int .i64 a1, .int .i64 x10_2] rfl (by (try simp only [List.map_toArray, List.map_cons, List.map_nil]); first | done | rfl | (simp only [List.length_drop, List.length_take]; rfl)) ?_; (with_reducible refine (ontimeref45_Window.calls a0 a1 x10_2 t142 t143 _ A9.out).mono ?_); rintro e w' ⟨rfl, ⟨nd, rfl⟩⟩; refine ⟨_, rfl, ?_⟩) | (go_at_call 19; (with_reducible refine (ontimeref45_Overlaps.calls a0 a1 x10_2 true _ A11.out).mono ?_); rintro e w' ⟨rfl, ⟨nd, rfl⟩⟩))
                        go_roundg k2
                        case measure => have := HK1.out; have := HK2.out; omega
                        case rel => exact ⟨(wrap64 (x10_2 + 1)), (by first | rfl | (simp; done) | (simp [*]; done)), H', ⟨by have := HK1.out; have := HK2.out; omega⟩, by repeat (first | exact Drawn0.refl _ | apply Drawn0.step)⟩
                    · rw [if_neg c13] at H
                      have c13b0 : ((wrap64 (x9_1 + 1)) == t143) = false := beq_eq_false_iff_ne.mpr c13
                      have c13b1 : ((wrap64 (x9_1 + 1)) != t143) = true := bne_iff_ne.mpr c13
                      have H' := Aside0.mk H
                      clear H
                      go_wp2_with (first | ((with_reducible refine gate_callee (f := 18) rfl ?_); refine goesL_ (some 39) rfl rfl Try.func18 (by kernel_rfl) rfl #[.int .i64 a0, .int .i64 a1, .int .i64 x10_2] rfl (by (try simp only [List.map_toArray, List.map_cons, List.map_nil]); first | done | rfl | (simp only [List.length_drop, List.length_take]; rfl)) ?_; (with_reducible refine (ontimeref45_Window.calls a0 a1 x10_2 t142 t143 _ A9.out).mono ?_); rintro e w' ⟨rfl, ⟨nd, rfl⟩⟩; refine ⟨_, rfl, ?_⟩) | (go_at_call 19; (with_reducible refine (ontimeref45_Overlaps.calls a0 a1 x10_2 true _ A11.out).mono ?_); rintro e w' ⟨rfl, ⟨nd, rfl⟩⟩))
                      go_roundg k2
                      case measure => have := HK1.out; have := HK2.out; omega
                      case rel => exact ⟨(wrap64 (x10_2 + 1)), (by first | rfl | (simp; done) | (simp [*]; done)), H', ⟨by have := HK1.out; have := HK2.out; omega⟩, by repeat (first | exact Drawn0.refl _ | apply Drawn0.step)⟩
                  · replace c12 := Bool.eq_false_iff.mpr c12
                    subst c12
                    have H1 : (some x9_1) = some r := by rw [if_neg (show ¬ (false = true) by decide)] at H; exact H
                    clear H
                    have H := H1
                    clear H1
                    obtain rfl := Option.some.inj H
                    go_wp2_with (first | ((with_reducible refine gate_callee (f := 18) rfl ?_); refine goesL_ (some 39) rfl rfl Try.func18 (by kernel_rfl) rfl #[.int .i64 a0, .int .i64 a1, .int .i64 x10_2] rfl (by (try simp only [List.map_toArray, List.map_cons, List.map_nil]); first | done | rfl | (simp only [List.length_drop, List.length_take]; rfl)) ?_; (with_reducible refine (ontimeref45_Window.calls a0 a1 x10_2 t142 t143 _ A9.out).mono ?_); rintro e w' ⟨rfl, ⟨nd, rfl⟩⟩; refine ⟨_, rfl, ?_⟩) | (go_at_call 19; (with_reducible refine (ontimeref45_Overlaps.calls a0 a1 x10_2 false _ A11.out).mono ?_); rintro e w' ⟨rfl, ⟨nd, rfl⟩⟩))
                    go_ret
                    exact ⟨by first | rfl | (simp; done) | (simp [*]; done), by repeat (first | exact Drawn0.refl _ | apply Drawn0.step)⟩
                · rw [if_neg c10] at H
                  have c10b0 : (x9_1 == t143) = false := beq_eq_false_iff_ne.mpr c10
                  have c10b1 : (x9_1 != t143) = true := bne_iff_ne.mpr c10
                  by_cases c15 : (wrap64 (x9_1 + 1)) = t143
                  · rw [if_pos c15] at H
                    have c15b0 : ((wrap64 (x9_1 + 1)) == t143) = true := beq_iff_eq.mpr c15
                    have c15b1 : ((wrap64 (x9_1 + 1)) != t143) = false := bne_eq_false_iff_eq.mpr c15
                    clear c15
                    by_cases c16 : (wrap64 (t143 - t142)) = 3
                    · rw [if_pos c16] at H
                      have c16b0 : ((wrap64 (t143 - t142)) == 3) = true := beq_iff_eq.mpr c16
                      have c16b1 : ((wrap64 (t143 - t142)) != 3) = false := bne_eq_false_iff_eq.mpr c16
                      clear c16
                      obtain rfl := Option.some.inj H
                      go_wp2_with (first | ((with_reducible refine gate_callee (f := 18) rfl ?_); refine goesL_ (some 39) rfl rfl Try.func18 (by kernel_rfl) rfl #[.int .i64 a0, .int .i64 a1, .int .i64 x10_2] rfl (by (try simp only [List.map_toArray, List.map_cons, List.map_nil]); first | done | rfl | (simp only [List.length_drop, List.length_take]; rfl)) ?_; (with_reducible refine (ontimeref45_Window.calls a0 a1 x10_2 t142 t143 _ A9.out).mono ?_); rintro e w' ⟨rfl, ⟨nd, rfl⟩⟩; refine ⟨_, rfl, ?_⟩))
                      go_ret
                      exact ⟨by first | rfl | (simp; done) | (simp [*]; done), by repeat (first | exact Drawn0.refl _ | apply Drawn0.step)⟩
                    · rw [if_neg c16] at H
                      have c16b0 : ((wrap64 (t143 - t142)) == 3) = false := beq_eq_false_iff_ne.mpr c16
                      have c16b1 : ((wrap64 (t143 - t142)) != 3) = true := bne_iff_ne.mpr c16
                      have H' := Aside0.mk H
                      clear H
                      go_wp2_with (first | ((with_reducible refine gate_callee (f := 18) rfl ?_); refine goesL_ (some 39) rfl rfl Try.func18 (by kernel_rfl) rfl #[.int .i64 a0, .int .i64 a1, .int .i64 x10_2] rfl (by (try simp only [List.map_toArray, List.map_cons, List.map_nil]); first | done | rfl | (simp only [List.length_drop, List.length_take]; rfl)) ?_; (with_reducible refine (ontimeref45_Window.calls a0 a1 x10_2 t142 t143 _ A9.out).mono ?_); rintro e w' ⟨rfl, ⟨nd, rfl⟩⟩; refine ⟨_, rfl, ?_⟩))
                      go_roundg k2
                      case measure => have := HK1.out; have := HK2.out; omega
                      case rel => exact ⟨(wrap64 (x10_2 + 1)), (by first | rfl | (simp; done) | (simp [*]; done)), H', ⟨by have := HK1.out; have := HK2.out; omega⟩, by repeat (first | exact Drawn0.refl _ | apply Drawn0.step)⟩
                  · rw [if_neg c15] at H
                    have c15b0 : ((wrap64 (x9_1 + 1)) == t143) = false := beq_eq_false_iff_ne.mpr c15
                    have c15b1 : ((wrap64 (x9_1 + 1)) != t143) = true := bne_iff_ne.mpr c15
                    have H' := Aside0.mk H
                    clear H
                    go_wp2_with (first | ((with_reducible refine gate_callee (f := 18) rfl ?_); refine goesL_ (some 39) rfl rfl Try.func18 (by kernel_rfl) rfl #[.int .i64 a0, .int .i64 a1, .int .i64 x10_2] rfl (by (try simp only [List.map_toArray, List.map_cons, List.map_nil]); first | done | rfl | (simp only [List.length_drop, List.length_take]; rfl)) ?_; (with_reducible refine (ontimeref45_Window.calls a0 a1 x10_2 t142 t143 _ A9.out).mono ?_); rintro e w' ⟨rfl, ⟨nd, rfl⟩⟩; refine ⟨_, rfl, ?_⟩))
                    go_roundg k2
                    case measure => have := HK1.out; have := HK2.out; omega
                    case rel => exact ⟨(wrap64 (x10_2 + 1)), (by first | rfl | (simp; done) | (simp [*]; done)), H', ⟨by have := HK1.out; have := HK2.out; omega⟩, by repeat (first | exact Drawn0.refl _ | apply Drawn0.step)⟩
              · rw [if_neg c8] at H
                have c8b0 : decide (x10_2 ≤ a0) = false := decide_eq_false c8
                clear c8
                have H' := Aside0.mk H
                clear H
                go_wp2
                go_roundg k2
                case measure => have := HK1.out; have := HK2.out; omega
                case rel => exact ⟨(wrap64 (x9_1 + 1)), (by first | rfl | (simp; done) | (simp [*]; done)), H', ⟨by have := HK1.out; have := HK2.out; omega⟩, by repeat (first | exact Drawn0.refl _ | apply Drawn0.step)⟩
        · rw [if_neg c7] at H
          have c7b0 : decide (x9_1 ≤ a1) = false := decide_eq_false c7
          clear c7
          obtain rfl := Option.some.inj H
          go_wp2
          go_ret
          exact ⟨by first | rfl | (simp; done) | (simp [*]; done), by repeat (first | exact Drawn0.refl _ | apply Drawn0.step)⟩
  · replace c5 := Bool.eq_false_iff.mpr c5
    subst c5
    have H1 : (some 0) = some r := by rw [if_neg (show ¬ (false = true) by decide)] at H; exact H
    clear H
    have H := H1
    clear H1
    obtain rfl := Option.some.inj H
    go_enter Try.func20, Try.ntmps20
    go_wp2_with (first | ((with_reducible refine gate_callee (f := 15) rfl ?_); refine goesL_ (some 15) rfl rfl Try.func15 (by kernel_rfl) rfl #[.int .i64 a0, .int .i64 a1] rfl (by (try simp only [List.map_toArray, List.map_cons, List.map_nil]); first | done | rfl | (simp only [List.length_drop, List.length_take]; rfl)) ?_; (with_reducible refine (ontimeref45_Heavy.calls a0 a1 false _ A4.out).mono ?_); rintro e w' ⟨rfl, ⟨nd, rfl⟩⟩; refine ⟨_, rfl, ?_⟩))
    go_ret
    exact ⟨by first | rfl | (simp; done) | (simp [*]; done), by repeat (first | exact Drawn0.refl _ | apply Drawn0.step)⟩

end Go.Proofs.Ytpbogldeojnaeaa.P
