-- written by wip/drive.py (a driver of this session's own over the kit's print.py)
import Derived.Test.YtpbogldeojnaeaaP0
import Derived.Test.YtpbogldeojnaeaaP2
import Derived.Test.YtpbogldeojnaeaaP4
import Derived.Test.YtpbogldeojnaeaaP12
import Derived.Test.YtpbogldeojnaeaaP13
namespace Go.Proofs.Ytpbogldeojnaeaa.P
open Go.RowKit Go.Proofs.YtpbogldeojnaeaaW.PrintWords Go.Proofs.YtpbogldeojnaeaaW.PrintLast Go.Proofs.YtpbogldeojnaeaaW.PrintMore
attribute [local go_sem] max2_int min2_int max_two min_two max_three min_three max_four min_four   -- for this text's walks alone
set_option linter.unusedVariables false
set_option linter.unusedSimpArgs false

/-! ### ontimelaw45_PfairDeadlines: function 10 -/
mutual
def ontimelaw45_PfairDeadlines.j0 : Nat → Bool → Int → ByteArray → Int → Int → Int → Int → Int → ByteArray → Int → Int → Int → Int → Option (Bool)
  | 0, _, _, _, _, _, _, _, _, _, _, _, _, _ => none
  | k + 1, x22, x291000, x291001, x291002, x291003, x291004, x291005, x292000, x292001, x292002, x292003, x292004, x292005 => if x22 = true then (some true) else ((pfair_Window.f k x291001 x291002 x291003 x291005).bind fun bt295 => ((pfair_Window.f k x292001 x292002 x292003 x292005).bind fun bt300 => (if bt295.2.2.2 = 0 then (ontimelaw45_PfairDeadlines.j1 k (bt300.2.2.2 != 0) x291000 x291001 x291002 x291003 x291004 x291005 x292000 x292001 x292002 x292003 x292004 x292005 bt295.1 bt295.2.1 bt295.2.2.1 bt300.1 bt300.2.1 bt300.2.2.1) else (ontimelaw45_PfairDeadlines.j1 k true x291000 x291001 x291002 x291003 x291004 x291005 x292000 x292001 x292002 x292003 x292004 x292005 bt295.1 bt295.2.1 bt295.2.2.1 bt300.1 bt300.2.1 bt300.2.2.1))))
def ontimelaw45_PfairDeadlines.j1 : Nat → Bool → Int → ByteArray → Int → Int → Int → Int → Int → ByteArray → Int → Int → Int → Int → Int → Int → Int → Int → Int → Int → Option (Bool)
  | 0, _, _, _, _, _, _, _, _, _, _, _, _, _, _, _, _, _, _, _ => none
  | k + 1, x44, x291000, x291001, x291002, x291003, x291004, x291005, x292000, x292001, x292002, x292003, x292004, x292005, x300000, x300001, x300002, x305000, x305001, x305002 => if x44 = true then (some false) else ((pfair_Overlaps.f k x291001 x291002 x291003 x291005).bind fun t305 => ((pfair_Overlaps.f k x292001 x292002 x292003 x292005).bind fun t306 => (if (wrap64 (x291004 + x300002)) < (wrap64 (x292004 + x305002)) then (ontimelaw45_PfairDeadlines.j2 k true x291000 x291001 x291002 x291003 x291004 x291005 x292000 x292001 x292002 x292003 x292004 x292005) else (if (wrap64 (x291004 + x300002)) = (wrap64 (x292004 + x305002)) then (if t305 = true then (ontimelaw45_PfairDeadlines.j2 k (!t306) x291000 x291001 x291002 x291003 x291004 x291005 x292000 x292001 x292002 x292003 x292004 x292005) else (ontimelaw45_PfairDeadlines.j2 k false x291000 x291001 x291002 x291003 x291004 x291005 x292000 x292001 x292002 x292003 x292004 x292005)) else (ontimelaw45_PfairDeadlines.j2 k false x291000 x291001 x291002 x291003 x291004 x291005 x292000 x292001 x292002 x292003 x292004 x292005)))))
def ontimelaw45_PfairDeadlines.j2 : Nat → Bool → Int → ByteArray → Int → Int → Int → Int → Int → ByteArray → Int → Int → Int → Int → Option (Bool)
  | 0, _, _, _, _, _, _, _, _, _, _, _, _, _ => none
  | k + 1, x79, x291000, x291001, x291002, x291003, x291004, x291005, x292000, x292001, x292002, x292003, x292004, x292005 => if x79 = true then ((pfair_Before.f k x291000 x291001 x291002 x291003 x291004 x291005 x292000 x292001 x292002 x292003 x292004 x292005).bind fun t307 => (if t307 = true then ((pfair_Before.f k x292000 x292001 x292002 x292003 x292004 x292005 x291000 x291001 x291002 x291003 x291004 x291005).bind fun t308 => (some (!t308))) else (some false))) else (some true)
end
def ontimelaw45_PfairDeadlines.f (k : Nat) (a0_0 : Int) (a0_1 : ByteArray) (a0_2 : Int) (a0_3 : Int) (a0_4 : Int) (a0_5 : Int) (a1_0 : Int) (a1_1 : ByteArray) (a1_2 : Int) (a1_3 : Int) (a1_4 : Int) (a1_5 : Int) : Option (Bool) := (ontimelaw45_awake.f k).bind fun t292 => (if t292 = true then ((ontimelaw45_candidate.f a0_0 a0_1 a0_2 a0_3 a0_4 a0_5).bind fun t293 => (if t293 = 0 then (ontimelaw45_PfairDeadlines.j0 k true a0_0 a0_1 a0_2 a0_3 a0_4 a0_5 a1_0 a1_1 a1_2 a1_3 a1_4 a1_5) else ((ontimelaw45_candidate.f a1_0 a1_1 a1_2 a1_3 a1_4 a1_5).bind fun t294 => (ontimelaw45_PfairDeadlines.j0 k (t294 == 0) a0_0 a0_1 a0_2 a0_3 a0_4 a0_5 a1_0 a1_1 a1_2 a1_3 a1_4 a1_5)))) else (some false))
theorem ontimelaw45_PfairDeadlines.mono_l : ∀ k, (∀ y0 y1 y2 y3 y4 y5 y6 y7 y8 y9 y10 y11 y12, LeO (ontimelaw45_PfairDeadlines.j0 k y0 y1 y2 y3 y4 y5 y6 y7 y8 y9 y10 y11 y12) (ontimelaw45_PfairDeadlines.j0 (k + 1) y0 y1 y2 y3 y4 y5 y6 y7 y8 y9 y10 y11 y12)) ∧ (∀ y0 y1 y2 y3 y4 y5 y6 y7 y8 y9 y10 y11 y12 y13 y14 y15 y16 y17 y18, LeO (ontimelaw45_PfairDeadlines.j1 k y0 y1 y2 y3 y4 y5 y6 y7 y8 y9 y10 y11 y12 y13 y14 y15 y16 y17 y18) (ontimelaw45_PfairDeadlines.j1 (k + 1) y0 y1 y2 y3 y4 y5 y6 y7 y8 y9 y10 y11 y12 y13 y14 y15 y16 y17 y18)) ∧ (∀ y0 y1 y2 y3 y4 y5 y6 y7 y8 y9 y10 y11 y12, LeO (ontimelaw45_PfairDeadlines.j2 k y0 y1 y2 y3 y4 y5 y6 y7 y8 y9 y10 y11 y12) (ontimelaw45_PfairDeadlines.j2 (k + 1) y0 y1 y2 y3 y4 y5 y6 y7 y8 y9 y10 y11 y12))
  | 0 => ⟨fun _ _ _ _ _ _ _ _ _ _ _ _ _ r h => by simp [ontimelaw45_PfairDeadlines.j0] at h, fun _ _ _ _ _ _ _ _ _ _ _ _ _ _ _ _ _ _ _ r h => by simp [ontimelaw45_PfairDeadlines.j1] at h, fun _ _ _ _ _ _ _ _ _ _ _ _ _ r h => by simp [ontimelaw45_PfairDeadlines.j2] at h⟩
  | k + 1 => by
    obtain ⟨ih0, ih1, ih2⟩ := ontimelaw45_PfairDeadlines.mono_l k
    refine ⟨?_, ?_, ?_⟩
    · intro y0 y1 y2 y3 y4 y5 y6 y7 y8 y9 y10 y11 y12
      unfold ontimelaw45_PfairDeadlines.j0
      repeat' first
      | (with_reducible exact ih0 _ _ _ _ _ _ _ _ _ _ _ _ _)
      | (with_reducible exact ih1 _ _ _ _ _ _ _ _ _ _ _ _ _ _ _ _ _ _ _)
      | (with_reducible exact ih2 _ _ _ _ _ _ _ _ _ _ _ _ _)
      | (with_reducible exact ontimelaw45_awake.mono _)
      | (with_reducible exact pfair_Before.mono _ _ _ _ _ _ _ _ _ _ _ _ _)
      | (with_reducible exact pfair_Overlaps.mono _ _ _ _ _)
      | (with_reducible exact pfair_Window.mono _ _ _ _ _)
      | (with_reducible exact LeO.refl _)
      | (with_reducible exact LeO.none _)
      | (with_reducible refine LeO.ite ?_ ?_)
      | (with_reducible refine LeO.bind ?_ (fun _ => ?_))
      | exact ih0 _ _ _ _ _ _ _ _ _ _ _ _ _
      | exact ih1 _ _ _ _ _ _ _ _ _ _ _ _ _ _ _ _ _ _ _
      | exact ih2 _ _ _ _ _ _ _ _ _ _ _ _ _
      | exact ontimelaw45_awake.mono _
      | exact pfair_Before.mono _ _ _ _ _ _ _ _ _ _ _ _ _
      | exact pfair_Overlaps.mono _ _ _ _ _
      | exact pfair_Window.mono _ _ _ _ _
      | exact LeO.none _
      | refine LeO.ite ?_ ?_
      | refine LeO.bind ?_ (fun _ => ?_)
    · intro y0 y1 y2 y3 y4 y5 y6 y7 y8 y9 y10 y11 y12 y13 y14 y15 y16 y17 y18
      unfold ontimelaw45_PfairDeadlines.j1
      repeat' first
      | (with_reducible exact ih0 _ _ _ _ _ _ _ _ _ _ _ _ _)
      | (with_reducible exact ih1 _ _ _ _ _ _ _ _ _ _ _ _ _ _ _ _ _ _ _)
      | (with_reducible exact ih2 _ _ _ _ _ _ _ _ _ _ _ _ _)
      | (with_reducible exact ontimelaw45_awake.mono _)
      | (with_reducible exact pfair_Before.mono _ _ _ _ _ _ _ _ _ _ _ _ _)
      | (with_reducible exact pfair_Overlaps.mono _ _ _ _ _)
      | (with_reducible exact pfair_Window.mono _ _ _ _ _)
      | (with_reducible exact LeO.refl _)
      | (with_reducible exact LeO.none _)
      | (with_reducible refine LeO.ite ?_ ?_)
      | (with_reducible refine LeO.bind ?_ (fun _ => ?_))
      | exact ih0 _ _ _ _ _ _ _ _ _ _ _ _ _
      | exact ih1 _ _ _ _ _ _ _ _ _ _ _ _ _ _ _ _ _ _ _
      | exact ih2 _ _ _ _ _ _ _ _ _ _ _ _ _
      | exact ontimelaw45_awake.mono _
      | exact pfair_Before.mono _ _ _ _ _ _ _ _ _ _ _ _ _
      | exact pfair_Overlaps.mono _ _ _ _ _
      | exact pfair_Window.mono _ _ _ _ _
      | exact LeO.none _
      | refine LeO.ite ?_ ?_
      | refine LeO.bind ?_ (fun _ => ?_)
    · intro y0 y1 y2 y3 y4 y5 y6 y7 y8 y9 y10 y11 y12
      unfold ontimelaw45_PfairDeadlines.j2
      repeat' first
      | (with_reducible exact ih0 _ _ _ _ _ _ _ _ _ _ _ _ _)
      | (with_reducible exact ih1 _ _ _ _ _ _ _ _ _ _ _ _ _ _ _ _ _ _ _)
      | (with_reducible exact ih2 _ _ _ _ _ _ _ _ _ _ _ _ _)
      | (with_reducible exact ontimelaw45_awake.mono _)
      | (with_reducible exact pfair_Before.mono _ _ _ _ _ _ _ _ _ _ _ _ _)
      | (with_reducible exact pfair_Overlaps.mono _ _ _ _ _)
      | (with_reducible exact pfair_Window.mono _ _ _ _ _)
      | (with_reducible exact LeO.refl _)
      | (with_reducible exact LeO.none _)
      | (with_reducible refine LeO.ite ?_ ?_)
      | (with_reducible refine LeO.bind ?_ (fun _ => ?_))
      | exact ih0 _ _ _ _ _ _ _ _ _ _ _ _ _
      | exact ih1 _ _ _ _ _ _ _ _ _ _ _ _ _ _ _ _ _ _ _
      | exact ih2 _ _ _ _ _ _ _ _ _ _ _ _ _
      | exact ontimelaw45_awake.mono _
      | exact pfair_Before.mono _ _ _ _ _ _ _ _ _ _ _ _ _
      | exact pfair_Overlaps.mono _ _ _ _ _
      | exact pfair_Window.mono _ _ _ _ _
      | exact LeO.none _
      | refine LeO.ite ?_ ?_
      | refine LeO.bind ?_ (fun _ => ?_)
theorem ontimelaw45_PfairDeadlines.mono : ∀ a0 a1 a2 a3 a4 a5 a6 a7 a8 a9 a10 a11 k, LeO (ontimelaw45_PfairDeadlines.f k a0 a1 a2 a3 a4 a5 a6 a7 a8 a9 a10 a11) (ontimelaw45_PfairDeadlines.f (k + 1) a0 a1 a2 a3 a4 a5 a6 a7 a8 a9 a10 a11) := by
  intro a0 a1 a2 a3 a4 a5 a6 a7 a8 a9 a10 a11 k
  obtain ⟨ih0, ih1, ih2⟩ := ontimelaw45_PfairDeadlines.mono_l k
  unfold ontimelaw45_PfairDeadlines.f
  repeat' first
      | (with_reducible exact ih0 _ _ _ _ _ _ _ _ _ _ _ _ _)
      | (with_reducible exact ih1 _ _ _ _ _ _ _ _ _ _ _ _ _ _ _ _ _ _ _)
      | (with_reducible exact ih2 _ _ _ _ _ _ _ _ _ _ _ _ _)
      | (with_reducible exact ontimelaw45_awake.mono _)
      | (with_reducible exact pfair_Before.mono _ _ _ _ _ _ _ _ _ _ _ _ _)
      | (with_reducible exact pfair_Overlaps.mono _ _ _ _ _)
      | (with_reducible exact pfair_Window.mono _ _ _ _ _)
      | (with_reducible exact LeO.refl _)
      | (with_reducible exact LeO.none _)
      | (with_reducible refine LeO.ite ?_ ?_)
      | (with_reducible refine LeO.bind ?_ (fun _ => ?_))
      | exact ih0 _ _ _ _ _ _ _ _ _ _ _ _ _
      | exact ih1 _ _ _ _ _ _ _ _ _ _ _ _ _ _ _ _ _ _ _
      | exact ih2 _ _ _ _ _ _ _ _ _ _ _ _ _
      | exact ontimelaw45_awake.mono _
      | exact pfair_Before.mono _ _ _ _ _ _ _ _ _ _ _ _ _
      | exact pfair_Overlaps.mono _ _ _ _ _
      | exact pfair_Window.mono _ _ _ _ _
      | exact LeO.none _
      | refine LeO.ite ?_ ?_
      | refine LeO.bind ?_ (fun _ => ?_)
def ontimelaw45_PfairDeadlines.T9 : Bool × List (List Nat × List Nat) := (true, [([], []), ([0], [0]), ([], []), ([2], [2]), ([1, 3], [1, 3]), ([], []), ([5], [5]), ([], []), ([7], [7]), ([6, 8], [6, 8]), ([4, 0, 1, 2, 3, 4], [4]), ([9, 10, 0, 1, 2, 3, 4, 5, 6, 7, 8, 9, 10], [9])])
def ontimelaw45_PfairDeadlines.B9 : List Nat := [0, 1, 0, 4, 15, 0, 32, 0, 128, 480, 31, 2047]
theorem ontimelaw45_PfairDeadlines.tab9 : rtab .any (opsOf Try.f10 9) = ontimelaw45_PfairDeadlines.T9 := by kernel_rfl
theorem ontimelaw45_PfairDeadlines.bits9 : waitsOk ontimelaw45_PfairDeadlines.T9.2 ontimelaw45_PfairDeadlines.B9 = true := by kernel_rfl
def ontimelaw45_PfairDeadlines.T10 : Bool × List (List Nat × List Nat) := (true, [([], []), ([0], [0]), ([], []), ([2], [2]), ([1, 3], [1, 3]), ([], []), ([5], [5]), ([], []), ([7], [7]), ([6, 8, 4], [6, 8]), ([4, 9, 0, 1, 2, 3, 4], [4]), ([9, 10, 0, 1, 2, 3, 4, 5, 6, 7, 8, 9, 10], [9])])
def ontimelaw45_PfairDeadlines.B10 : List Nat := [0, 1, 0, 4, 15, 0, 32, 0, 128, 511, 1023, 2047]
theorem ontimelaw45_PfairDeadlines.tab10 : rtab .any (opsOf Try.f10 10) = ontimelaw45_PfairDeadlines.T10 := by kernel_rfl
theorem ontimelaw45_PfairDeadlines.bits10 : waitsOk ontimelaw45_PfairDeadlines.T10.2 ontimelaw45_PfairDeadlines.B10 = true := by kernel_rfl
set_option maxHeartbeats 8000000 in
set_option maxRecDepth 100000 in
theorem ontimelaw45_PfairDeadlines.calls (k : Nat) (a0_0 : Int) (a0_1 : ByteArray) (a0_2 : Int) (a0_3 : Int) (a0_4 : Int) (a0_5 : Int) (a1_0 : Int) (a1_1 : ByteArray) (a1_2 : Int) (a1_3 : Int) (a1_4 : Int) (a1_5 : Int) (r : Bool) (w : World) (h : ontimelaw45_PfairDeadlines.f k a0_0 a0_1 a0_2 a0_3 a0_4 a0_5 a1_0 a1_1 a1_2 a1_3 a1_4 a1_5 = some r) :
    Calls Try.prog 10 #[.agg #[.int .i64 a0_0, .string a0_1, .int .i64 a0_2, .int .i64 a0_3, .int .i64 a0_4, .int .i64 a0_5], .agg #[.int .i64 a1_0, .string a1_1, .int .i64 a1_2, .int .i64 a1_3, .int .i64 a1_4, .int .i64 a1_5]] w fun e w' => e = .returned (.bool r) ∧ Below w.heap.size w w' := by
  have hu42 := Try.underlying42
  have hu23 := Try.underlying23
  have hu26 := Try.underlying26
  have HB := Aside0.mk (Below.refl w.heap.size w)
  have H : ((ontimelaw45_awake.f k).bind fun t292 => (if t292 = true then ((ontimelaw45_candidate.f a0_0 a0_1 a0_2 a0_3 a0_4 a0_5).bind fun t293 => (if t293 = 0 then (ontimelaw45_PfairDeadlines.j0 k true a0_0 a0_1 a0_2 a0_3 a0_4 a0_5 a1_0 a1_1 a1_2 a1_3 a1_4 a1_5) else ((ontimelaw45_candidate.f a1_0 a1_1 a1_2 a1_3 a1_4 a1_5).bind fun t294 => (ontimelaw45_PfairDeadlines.j0 k (t294 == 0) a0_0 a0_1 a0_2 a0_3 a0_4 a0_5 a1_0 a1_1 a1_2 a1_3 a1_4 a1_5)))) else (some false))) = some r := h
  clear h
  replace H := Option.bind_eq_some_iff.mp H
  obtain ⟨t292, A30, H⟩ := H
  replace H : (if t292 = true then ((ontimelaw45_candidate.f a0_0 a0_1 a0_2 a0_3 a0_4 a0_5).bind fun t293 => (if t293 = 0 then (ontimelaw45_PfairDeadlines.j0 k true a0_0 a0_1 a0_2 a0_3 a0_4 a0_5 a1_0 a1_1 a1_2 a1_3 a1_4 a1_5) else ((ontimelaw45_candidate.f a1_0 a1_1 a1_2 a1_3 a1_4 a1_5).bind fun t294 => (ontimelaw45_PfairDeadlines.j0 k (t294 == 0) a0_0 a0_1 a0_2 a0_3 a0_4 a0_5 a1_0 a1_1 a1_2 a1_3 a1_4 a1_5)))) else (some false)) = some r := H
  have A3 := Aside0.mk A30
  clear A30
  by_cases c4 : t292 = true
  · subst c4
    have H1 : ((ontimelaw45_candidate.f a0_0 a0_1 a0_2 a0_3 a0_4 a0_5).bind fun t293 => (if t293 = 0 then (ontimelaw45_PfairDeadlines.j0 k true a0_0 a0_1 a0_2 a0_3 a0_4 a0_5 a1_0 a1_1 a1_2 a1_3 a1_4 a1_5) else ((ontimelaw45_candidate.f a1_0 a1_1 a1_2 a1_3 a1_4 a1_5).bind fun t294 => (ontimelaw45_PfairDeadlines.j0 k (t294 == 0) a0_0 a0_1 a0_2 a0_3 a0_4 a0_5 a1_0 a1_1 a1_2 a1_3 a1_4 a1_5)))) = some r := by rw [if_pos rfl] at H; exact H
    clear H
    have H := H1
    clear H1
    have HC5 := Aside0.mk H
    clear H
    go_enter Try.func10, Try.ntmps10
    go_upto_region 3 with (first | ((with_reducible refine gate_dst (N := 2) rfl ?_); refine box_event ?hg (N := 2) ?hd (cs := #[.int .i64 a0_0, .string a0_1, .int .i64 a0_2, .int .i64 a0_3, .int .i64 a0_4, .int .i64 a0_5]) (t := 42) ?hr ?_; (case hd => rfl); (case hg => rfl); (case hr => first | (go_simp; done) | (go_simp; rfl)); intro gb290 hg w6 hbox hb; have n0_ := Aside0.mk (below_step (by repeat (first | (with_reducible first | exact HB.out | apply below_alloc | apply pw_below_drewN | apply below_drew1) | exact HB.out)) hb); have n1_ := Aside0.mk (hbox); have n2_ := Aside0.mk ((by rw [hg]; exact (below_size (by repeat (first | (with_reducible first | exact HB.out | apply below_alloc | apply pw_below_drewN | apply below_drew1) | exact HB.out))) : w.heap.size ≤ gb290)); have n3_ := Aside0.mk ((by rw [hg]; exact (below_size (by repeat (first | (with_reducible first | exact HB.out | apply below_alloc | apply pw_below_drewN | apply below_drew1) | exact HB.out))) : w.heap.size ≤ gb290)); clear HB; have HB := n0_; have BK290 := n1_; have GW290 := n2_; have GE290 := n3_; clear n0_ n1_ n2_ n3_; clear hb hbox hg) | ((with_reducible refine gate_dst (N := 3) rfl ?_); refine box_event ?hg (N := 3) ?hd (cs := #[.int .i64 a1_0, .string a1_1, .int .i64 a1_2, .int .i64 a1_3, .int .i64 a1_4, .int .i64 a1_5]) (t := 42) ?hr ?_; (case hd => rfl); (case hg => rfl); (case hr => first | (go_simp; done) | (go_simp; rfl)); intro gb291 hg w7 hbox hb; have n0_ := Aside0.mk (blk_below (g := gb290) (o := .cells #[.int .i64 a0_0, .string a0_1, .int .i64 a0_2, .int .i64 a0_3, .int .i64 a0_4, .int .i64 a0_5] 42 (0, 0)) (by (with_reducible repeat (first | refine blk_drewN ?_ _ | refine blk_drew ?_ | refine blk_alloc ?_ _)); exact BK290.out) hb); have n1_ := Aside0.mk (below_step (by repeat (first | (with_reducible first | exact HB.out | apply below_alloc | apply pw_below_drewN | apply below_drew1 | refine below_set ?_ GE290.out) | exact HB.out)) hb); have n2_ := Aside0.mk (hbox); have n3_ := Aside0.mk ((by rw [hg]; exact (below_size (by repeat (first | (with_reducible first | exact HB.out | apply below_alloc | apply pw_below_drewN | apply below_drew1 | refine below_set ?_ GE290.out) | exact HB.out))) : w.heap.size ≤ gb291)); have n4_ := Aside0.mk ((by rw [hg]; exact (below_size (by repeat (first | (with_reducible first | exact HB.out | apply below_alloc | apply pw_below_drewN | apply below_drew1 | refine below_set ?_ GE290.out) | exact HB.out))) : w.heap.size ≤ gb291)); have n5_ := Aside0.mk ((by rw [hg]; exact Nat.ne_of_lt (blk_lt (g := gb290) (o := .cells #[.int .i64 a0_0, .string a0_1, .int .i64 a0_2, .int .i64 a0_3, .int .i64 a0_4, .int .i64 a0_5] 42 (0, 0)) (by (with_reducible repeat (first | refine blk_drewN ?_ _ | refine blk_drew ?_ | refine blk_alloc ?_ _)); exact BK290.out)) : gb290 ≠ gb291)); have n6_ := Aside0.mk ((by rw [hg]; exact Nat.ne_of_gt (blk_lt (g := gb290) (o := .cells #[.int .i64 a0_0, .string a0_1, .int .i64 a0_2, .int .i64 a0_3, .int .i64 a0_4, .int .i64 a0_5] 42 (0, 0)) (by (with_reducible repeat (first | refine blk_drewN ?_ _ | refine blk_drew ?_ | refine blk_alloc ?_ _)); exact BK290.out)) : gb291 ≠ gb290)); clear BK290; clear HB; have BK290 := n0_; have HB := n1_; have BK291 := n2_; have GW291 := n3_; have GE291 := n4_; have NB290_291 := n5_; have NB291_290 := n6_; clear n0_ n1_ n2_ n3_ n4_ n5_ n6_; clear hb hbox hg) | ((with_reducible refine gate_callee (f := 11) rfl ?_); refine goesL_ (some 13) rfl rfl Try.func11 (by kernel_rfl) rfl #[] rfl (by (try simp only [List.map_toArray, List.map_cons, List.map_nil]); first | done | rfl | (simp only [List.length_drop, List.length_take]; rfl)) ?_; (with_reducible refine (ontimelaw45_awake.calls k  true _ A3.out).mono ?_); rintro e w8 ⟨rfl, hb⟩; refine ⟨_, rfl, ?_⟩; have n0_ := Aside0.mk (blk_below (g := gb290) (o := .cells #[.int .i64 a0_0, .string a0_1, .int .i64 a0_2, .int .i64 a0_3, .int .i64 a0_4, .int .i64 a0_5] 42 (0, 0)) (by (with_reducible repeat (first | refine blk_drewN ?_ _ | refine blk_drew ?_ | refine blk_alloc ?_ _)); exact BK290.out) hb); have n1_ := Aside0.mk (blk_below (g := gb291) (o := .cells #[.int .i64 a1_0, .string a1_1, .int .i64 a1_2, .int .i64 a1_3, .int .i64 a1_4, .int .i64 a1_5] 42 (0, 0)) (by (with_reducible repeat (first | refine blk_drewN ?_ _ | refine blk_drew ?_ | refine blk_alloc ?_ _)); exact BK291.out) hb); have n2_ := Aside0.mk (below_step (by repeat (first | (with_reducible first | exact HB.out | apply below_alloc | apply pw_below_drewN | apply below_drew1 | refine below_set ?_ GE290.out | refine below_set ?_ GE291.out) | exact HB.out)) hb); clear BK290; clear BK291; clear HB; have BK290 := n0_; have BK291 := n1_; have HB := n2_; clear n0_ n1_ n2_; (try clear hb); (try clear hb2); (try clear hk); (try clear hi)))
    (try simp only [Act.put, List.setIfInBounds_toArray, List.set_cons_zero, List.set_cons_succ])
    go_cut [22] (fun v22 wc => ∃ (kq : Nat) (x22_4 : Bool), v22 = .bool x22_4 ∧ Aside0 (ontimelaw45_PfairDeadlines.j0 kq x22_4 a0_0 a0_1 a0_2 a0_3 a0_4 a0_5 a1_0 a1_1 a1_2 a1_3 a1_4 a1_5 = some r) ∧ Aside0 (kq ≤ k) ∧ Aside0 (wc.heap[gb290]? = some (.cells #[.int .i64 a0_0, .string a0_1, .int .i64 a0_2, .int .i64 a0_3, .int .i64 a0_4, .int .i64 a0_5] 42 (0, 0))) ∧ Aside0 (wc.heap[gb291]? = some (.cells #[.int .i64 a1_0, .string a1_1, .int .i64 a1_2, .int .i64 a1_3, .int .i64 a1_4, .int .i64 a1_5] 42 (0, 0))) ∧ Aside0 (Below w.heap.size w wc))
    case first =>
      have H := HC5.out
      clear HC5
      replace H := Option.bind_eq_some_iff.mp H
      obtain ⟨t293, A90, H⟩ := H
      replace H : (if t293 = 0 then (ontimelaw45_PfairDeadlines.j0 k true a0_0 a0_1 a0_2 a0_3 a0_4 a0_5 a1_0 a1_1 a1_2 a1_3 a1_4 a1_5) else ((ontimelaw45_candidate.f a1_0 a1_1 a1_2 a1_3 a1_4 a1_5).bind fun t294 => (ontimelaw45_PfairDeadlines.j0 k (t294 == 0) a0_0 a0_1 a0_2 a0_3 a0_4 a0_5 a1_0 a1_1 a1_2 a1_3 a1_4 a1_5))) = some r := H
      have A9 := Aside0.mk A90
      clear A90
      by_cases c10 : t293 = 0
      · rw [if_pos c10] at H
        have c10b0 : (t293 == 0) = true := beq_iff_eq.mpr c10
        have c10b1 : (t293 != 0) = false := bne_eq_false_iff_eq.mpr c10
        clear c10
        (first | rw [c10b0] | (simp only [i64_w, i32_w]; rw [c10b0]) | skip)
        have H' := Aside0.mk H
        clear H
        have hnb11 := NB290_291.out
        have hnc11 := NB291_290.out
        have hcz12_0 : w8.cell? ⟨gb290, 0, none⟩ = some (.int .i64 a0_0) := (blk_cell BK290.out 0).trans rfl
        have hcz12_1 : w8.cell? ⟨gb290, 1, none⟩ = some (.string a0_1) := (blk_cell BK290.out 1).trans rfl
        have hcz12_2 : w8.cell? ⟨gb290, 2, none⟩ = some (.int .i64 a0_2) := (blk_cell BK290.out 2).trans rfl
        have hcz12_3 : w8.cell? ⟨gb290, 3, none⟩ = some (.int .i64 a0_3) := (blk_cell BK290.out 3).trans rfl
        have hcz12_4 : w8.cell? ⟨gb290, 4, none⟩ = some (.int .i64 a0_4) := (blk_cell BK290.out 4).trans rfl
        have hcz12_5 : w8.cell? ⟨gb290, 5, none⟩ = some (.int .i64 a0_5) := (blk_cell BK290.out 5).trans rfl
        have hfz12_0 := blk_frozen BK290.out 0
        have hfz12_1 := blk_frozen BK290.out 1
        have hfz12_2 := blk_frozen BK290.out 2
        have hfz12_3 := blk_frozen BK290.out 3
        have hfz12_4 := blk_frozen BK290.out 4
        have hfz12_5 := blk_frozen BK290.out 5
        go_wp2_with (first | ((with_reducible refine gate_callee (f := 23) rfl ?_); refine goesL_ (some 16) rfl rfl Try.func23 (by kernel_rfl) rfl #[.agg #[.int .i64 a0_0, .string a0_1, .int .i64 a0_2, .int .i64 a0_3, .int .i64 a0_4, .int .i64 a0_5]] rfl (by (try simp only [List.map_toArray, List.map_cons, List.map_nil]); first | done | rfl | (simp only [List.length_drop, List.length_take]; rfl)) ?_; (with_reducible refine (ontimelaw45_candidate.calls a0_0 a0_1 a0_2 a0_3 a0_4 a0_5 t293 _ A9.out).mono ?_); rintro e w13 ⟨rfl, hb⟩; refine ⟨_, rfl, ?_⟩; have n0_ := Aside0.mk (blk_below (g := gb290) (o := .cells #[.int .i64 a0_0, .string a0_1, .int .i64 a0_2, .int .i64 a0_3, .int .i64 a0_4, .int .i64 a0_5] 42 (0, 0)) (by (with_reducible repeat (first | refine blk_drewN ?_ _ | refine blk_drew ?_ | refine blk_alloc ?_ _)); exact BK290.out) hb); have n1_ := Aside0.mk (blk_below (g := gb291) (o := .cells #[.int .i64 a1_0, .string a1_1, .int .i64 a1_2, .int .i64 a1_3, .int .i64 a1_4, .int .i64 a1_5] 42 (0, 0)) (by (with_reducible repeat (first | refine blk_drewN ?_ _ | refine blk_drew ?_ | refine blk_alloc ?_ _)); exact BK291.out) hb); have n2_ := Aside0.mk (below_step (by repeat (first | (with_reducible first | exact HB.out | apply below_alloc | apply pw_below_drewN | apply below_drew1 | refine below_set ?_ GE290.out | refine below_set ?_ GE291.out) | exact HB.out)) hb); clear BK290; clear BK291; clear HB; have BK290 := n0_; have BK291 := n1_; have HB := n2_; clear n0_ n1_ n2_; (try clear hb); (try clear hb2); (try clear hk); (try clear hi)))
        go_meet
        case rel => exact ⟨_, (true), (by first | rfl | (simp; done) | (simp [*]; done)), H', ⟨by first | omega | exact Nat.le_refl _⟩, ⟨by (with_reducible repeat (first | refine blk_drewN ?_ _ | refine blk_drew ?_ | refine blk_alloc ?_ _)); exact BK290.out⟩, ⟨by (with_reducible repeat (first | refine blk_drewN ?_ _ | refine blk_drew ?_ | refine blk_alloc ?_ _)); exact BK291.out⟩, ⟨by repeat (first | (with_reducible first | exact HB.out | apply below_alloc | apply pw_below_drewN | apply below_drew1 | refine below_set ?_ GE290.out | refine below_set ?_ GE291.out) | exact HB.out)⟩⟩
      · rw [if_neg c10] at H
        have c10b0 : (t293 == 0) = false := beq_eq_false_iff_ne.mpr c10
        have c10b1 : (t293 != 0) = true := bne_iff_ne.mpr c10
        (first | rw [c10b0] | (simp only [i64_w, i32_w]; rw [c10b0]) | skip)
        replace H := Option.bind_eq_some_iff.mp H
        obtain ⟨t294, A140, H⟩ := H
        replace H : (ontimelaw45_PfairDeadlines.j0 k (t294 == 0) a0_0 a0_1 a0_2 a0_3 a0_4 a0_5 a1_0 a1_1 a1_2 a1_3 a1_4 a1_5) = some r := H
        have A14 := Aside0.mk A140
        clear A140
        have H' := Aside0.mk H
        clear H
        have hnb15 := NB290_291.out
        have hnc15 := NB291_290.out
        have hcz16_0 : w8.cell? ⟨gb290, 0, none⟩ = some (.int .i64 a0_0) := (blk_cell BK290.out 0).trans rfl
        have hcz16_1 : w8.cell? ⟨gb290, 1, none⟩ = some (.string a0_1) := (blk_cell BK290.out 1).trans rfl
        have hcz16_2 : w8.cell? ⟨gb290, 2, none⟩ = some (.int .i64 a0_2) := (blk_cell BK290.out 2).trans rfl
        have hcz16_3 : w8.cell? ⟨gb290, 3, none⟩ = some (.int .i64 a0_3) := (blk_cell BK290.out 3).trans rfl
        have hcz16_4 : w8.cell? ⟨gb290, 4, none⟩ = some (.int .i64 a0_4) := (blk_cell BK290.out 4).trans rfl
        have hcz16_5 : w8.cell? ⟨gb290, 5, none⟩ = some (.int .i64 a0_5) := (blk_cell BK290.out 5).trans rfl
        have hfz16_0 := blk_frozen BK290.out 0
        have hfz16_1 := blk_frozen BK290.out 1
        have hfz16_2 := blk_frozen BK290.out 2
        have hfz16_3 := blk_frozen BK290.out 3
        have hfz16_4 := blk_frozen BK290.out 4
        have hfz16_5 := blk_frozen BK290.out 5
        go_wp2_with (first | ((with_reducible refine gate_callee (f := 23) rfl ?_); refine goesL_ (some 16) rfl rfl Try.func23 (by kernel_rfl) rfl #[.agg #[.int .i64 a0_0, .string a0_1, .int .i64 a0_2, .int .i64 a0_3, .int .i64 a0_4, .int .i64 a0_5]] rfl (by (try simp only [List.map_toArray, List.map_cons, List.map_nil]); first | done | rfl | (simp only [List.length_drop, List.length_take]; rfl)) ?_; (with_reducible refine (ontimelaw45_candidate.calls a0_0 a0_1 a0_2 a0_3 a0_4 a0_5 t293 _ A9.out).mono ?_); rintro e w17 ⟨rfl, hb⟩; refine ⟨_, rfl, ?_⟩; have n0_ := Aside0.mk (blk_below (g := gb290) (o := .cells #[.int .i64 a0_0, .string a0_1, .int .i64 a0_2, .int .i64 a0_3, .int .i64 a0_4, .int .i64 a0_5] 42 (0, 0)) (by (with_reducible repeat (first | refine blk_drewN ?_ _ | refine blk_drew ?_ | refine blk_alloc ?_ _)); exact BK290.out) hb); have n1_ := Aside0.mk (blk_below (g := gb291) (o := .cells #[.int .i64 a1_0, .string a1_1, .int .i64 a1_2, .int .i64 a1_3, .int .i64 a1_4, .int .i64 a1_5] 42 (0, 0)) (by (with_reducible repeat (first | refine blk_drewN ?_ _ | refine blk_drew ?_ | refine blk_alloc ?_ _)); exact BK291.out) hb); have n2_ := Aside0.mk (below_step (by repeat (first | (with_reducible first | exact HB.out | apply below_alloc | apply pw_below_drewN | apply below_drew1 | refine below_set ?_ GE290.out | refine below_set ?_ GE291.out) | exact HB.out)) hb); clear BK290; clear BK291; clear HB; have BK290 := n0_; have BK291 := n1_; have HB := n2_; clear n0_ n1_ n2_; (try clear hb); (try clear hb2); (try clear hk); (try clear hi); have hcz18_0 : w17.cell? ⟨gb291, 0, none⟩ = some (.int .i64 a1_0) := (blk_cell BK291.out 0).trans rfl; have hcz18_1 : w17.cell? ⟨gb291, 1, none⟩ = some (.string a1_1) := (blk_cell BK291.out 1).trans rfl; have hcz18_2 : w17.cell? ⟨gb291, 2, none⟩ = some (.int .i64 a1_2) := (blk_cell BK291.out 2).trans rfl; have hcz18_3 : w17.cell? ⟨gb291, 3, none⟩ = some (.int .i64 a1_3) := (blk_cell BK291.out 3).trans rfl; have hcz18_4 : w17.cell? ⟨gb291, 4, none⟩ = some (.int .i64 a1_4) := (blk_cell BK291.out 4).trans rfl; have hcz18_5 : w17.cell? ⟨gb291, 5, none⟩ = some (.int .i64 a1_5) := (blk_cell BK291.out 5).trans rfl; have hfz18_0 := blk_frozen BK291.out 0; have hfz18_1 := blk_frozen BK291.out 1; have hfz18_2 := blk_frozen BK291.out 2; have hfz18_3 := blk_frozen BK291.out 3; have hfz18_4 := blk_frozen BK291.out 4; have hfz18_5 := blk_frozen BK291.out 5) | (go_at_call 23; (with_reducible refine (ontimelaw45_candidate.calls a1_0 a1_1 a1_2 a1_3 a1_4 a1_5 t294 _ A14.out).mono ?_); rintro e w19 ⟨rfl, hb⟩; have n0_ := Aside0.mk (blk_below (g := gb290) (o := .cells #[.int .i64 a0_0, .string a0_1, .int .i64 a0_2, .int .i64 a0_3, .int .i64 a0_4, .int .i64 a0_5] 42 (0, 0)) (by (with_reducible repeat (first | refine blk_drewN ?_ _ | refine blk_drew ?_ | refine blk_alloc ?_ _)); exact BK290.out) hb); have n1_ := Aside0.mk (blk_below (g := gb291) (o := .cells #[.int .i64 a1_0, .string a1_1, .int .i64 a1_2, .int .i64 a1_3, .int .i64 a1_4, .int .i64 a1_5] 42 (0, 0)) (by (with_reducible repeat (first | refine blk_drewN ?_ _ | refine blk_drew ?_ | refine blk_alloc ?_ _)); exact BK291.out) hb); have n2_ := Aside0.mk (below_step (by repeat (first | (with_reducible first | exact HB.out | apply below_alloc | apply pw_below_drewN | apply below_drew1 | refine below_set ?_ GE290.out | refine below_set ?_ GE291.out) | exact HB.out)) hb); clear BK290; clear BK291; clear HB; have BK290 := n0_; have BK291 := n1_; have HB := n2_; clear n0_ n1_ n2_; (try clear hb); (try clear hb2); (try clear hk); (try clear hi)))
        go_meet
        case rel => exact ⟨_, ((t294 == 0)), (by first | rfl | (simp; done) | (simp [*]; done)), H', ⟨by first | omega | exact Nat.le_refl _⟩, ⟨by (with_reducible repeat (first | refine blk_drewN ?_ _ | refine blk_drew ?_ | refine blk_alloc ?_ _)); exact BK290.out⟩, ⟨by (with_reducible repeat (first | refine blk_drewN ?_ _ | refine blk_drew ?_ | refine blk_alloc ?_ _)); exact BK291.out⟩, ⟨by repeat (first | (with_reducible first | exact HB.out | apply below_alloc | apply pw_below_drewN | apply below_drew1 | refine below_set ?_ GE290.out | refine below_set ?_ GE291.out) | exact HB.out)⟩⟩
    case rest =>
      clear HC5
      try clear c1
      try clear c2
      try clear p2
      try clear c4
      try clear c10
      try clear c10b0
      try clear c10b1
      try clear c11
      try clear c15
      try clear hcz12_0
      try clear hcz12_1
      try clear hcz12_2
      try clear hcz12_3
      try clear hcz12_4
      try clear hcz12_5
      try clear hcz16_0
      try clear hcz16_1
      try clear hcz16_2
      try clear hcz16_3
      try clear hcz16_4
      try clear hcz16_5
      try clear hcz18_0
      try clear hcz18_1
      try clear hcz18_2
      try clear hcz18_3
      try clear hcz18_4
      try clear hcz18_5
      try clear hfz12_0
      try clear hfz12_1
      try clear hfz12_2
      try clear hfz12_3
      try clear hfz12_4
      try clear hfz12_5
      try clear hfz16_0
      try clear hfz16_1
      try clear hfz16_2
      try clear hfz16_3
      try clear hfz16_4
      try clear hfz16_5
      try clear hfz18_0
      try clear hfz18_1
      try clear hfz18_2
      try clear hfz18_3
      try clear hfz18_4
      try clear hfz18_5
      obtain ⟨kq, x22_4, rfl, HA, HJ4, BK290, BK291, HB⟩ := hcut
      cases kq with
      | zero => exact absurd HA.out (by simp [ontimelaw45_PfairDeadlines.j0])
      | succ kj4 =>
        have H := HA.out
        clear HA
        simp only [ontimelaw45_PfairDeadlines.j0] at H
        by_cases c20 : x22_4 = true
        · subst c20
          have H1 : (some true) = some r := by rw [if_pos rfl] at H; exact H
          clear H
          have H := H1
          clear H1
          obtain rfl := Option.some.inj H
          go_wp2
          go_ret
          exact ⟨by first | rfl | (simp [errW_none, errW_some] <;> rfl) | (simp [*, errW_none, errW_some] <;> rfl), by repeat (first | (with_reducible first | exact HB.out | apply below_alloc | apply pw_below_drewN | apply below_drew1 | refine below_set ?_ GE290.out | refine below_set ?_ GE291.out) | exact HB.out)⟩
        · replace c20 := Bool.eq_false_iff.mpr c20
          subst c20
          have H1 : ((pfair_Window.f kj4 a0_1 a0_2 a0_3 a0_5).bind fun bt295 => ((pfair_Window.f kj4 a1_1 a1_2 a1_3 a1_5).bind fun bt300 => (if bt295.2.2.2 = 0 then (ontimelaw45_PfairDeadlines.j1 kj4 (bt300.2.2.2 != 0) a0_0 a0_1 a0_2 a0_3 a0_4 a0_5 a1_0 a1_1 a1_2 a1_3 a1_4 a1_5 bt295.1 bt295.2.1 bt295.2.2.1 bt300.1 bt300.2.1 bt300.2.2.1) else (ontimelaw45_PfairDeadlines.j1 kj4 true a0_0 a0_1 a0_2 a0_3 a0_4 a0_5 a1_0 a1_1 a1_2 a1_3 a1_4 a1_5 bt295.1 bt295.2.1 bt295.2.2.1 bt300.1 bt300.2.1 bt300.2.2.1)))) = some r := by rw [if_neg (show ¬ (false = true) by decide)] at H; exact H
          clear H
          have H := H1
          clear H1
          replace H := Option.bind_eq_some_iff.mp H
          obtain ⟨⟨t295, t296, t297, t298⟩, A210, H⟩ := H
          replace H : ((pfair_Window.f kj4 a1_1 a1_2 a1_3 a1_5).bind fun bt300 => (if t298 = 0 then (ontimelaw45_PfairDeadlines.j1 kj4 (bt300.2.2.2 != 0) a0_0 a0_1 a0_2 a0_3 a0_4 a0_5 a1_0 a1_1 a1_2 a1_3 a1_4 a1_5 t295 t296 t297 bt300.1 bt300.2.1 bt300.2.2.1) else (ontimelaw45_PfairDeadlines.j1 kj4 true a0_0 a0_1 a0_2 a0_3 a0_4 a0_5 a1_0 a1_1 a1_2 a1_3 a1_4 a1_5 t295 t296 t297 bt300.1 bt300.2.1 bt300.2.2.1))) = some r := H
          have A21 := Aside0.mk A210
          clear A210
          replace H := Option.bind_eq_some_iff.mp H
          obtain ⟨⟨t300, t301, t302, t303⟩, A220, H⟩ := H
          replace H : (if t298 = 0 then (ontimelaw45_PfairDeadlines.j1 kj4 (t303 != 0) a0_0 a0_1 a0_2 a0_3 a0_4 a0_5 a1_0 a1_1 a1_2 a1_3 a1_4 a1_5 t295 t296 t297 t300 t301 t302) else (ontimelaw45_PfairDeadlines.j1 kj4 true a0_0 a0_1 a0_2 a0_3 a0_4 a0_5 a1_0 a1_1 a1_2 a1_3 a1_4 a1_5 t295 t296 t297 t300 t301 t302)) = some r := H
          have A22 := Aside0.mk A220
          clear A220
          have HC23 := Aside0.mk H
          clear H
          have hnb24 := NB290_291.out
          have hnc24 := NB291_290.out
          have hcz25_0 : wc.cell? ⟨gb290, 0, none⟩ = some (.int .i64 a0_0) := (blk_cell BK290.out 0).trans rfl
          have hcz25_1 : wc.cell? ⟨gb290, 1, none⟩ = some (.string a0_1) := (blk_cell BK290.out 1).trans rfl
          have hcz25_2 : wc.cell? ⟨gb290, 2, none⟩ = some (.int .i64 a0_2) := (blk_cell BK290.out 2).trans rfl
          have hcz25_3 : wc.cell? ⟨gb290, 3, none⟩ = some (.int .i64 a0_3) := (blk_cell BK290.out 3).trans rfl
          have hcz25_4 : wc.cell? ⟨gb290, 4, none⟩ = some (.int .i64 a0_4) := (blk_cell BK290.out 4).trans rfl
          have hcz25_5 : wc.cell? ⟨gb290, 5, none⟩ = some (.int .i64 a0_5) := (blk_cell BK290.out 5).trans rfl
          have hfz25_0 := blk_frozen BK290.out 0
          have hfz25_1 := blk_frozen BK290.out 1
          have hfz25_2 := blk_frozen BK290.out 2
          have hfz25_3 := blk_frozen BK290.out 3
          have hfz25_4 := blk_frozen BK290.out 4
          have hfz25_5 := blk_frozen BK290.out 5
          go_upto_region 7 with (first | ((with_reducible refine gate_callee (f := 12) rfl ?_); refine goesL_ (some 28) rfl rfl Try.func12 (by kernel_rfl) rfl #[.agg #[.string a0_1, .int .i64 a0_2, .int .i64 a0_3], .int .i64 a0_5] rfl (by (try simp only [List.map_toArray, List.map_cons, List.map_nil]); first | done | rfl | (simp only [List.length_drop, List.length_take]; rfl)) ?_; (with_reducible refine (pfair_Window.calls kj4 a0_1 a0_2 a0_3 a0_5 t295 t296 t297 t298 _ A21.out).mono ?_); rintro e w26 ⟨rfl, hb⟩; refine ⟨_, rfl, ?_⟩; have n0_ := Aside0.mk (blk_below (g := gb290) (o := .cells #[.int .i64 a0_0, .string a0_1, .int .i64 a0_2, .int .i64 a0_3, .int .i64 a0_4, .int .i64 a0_5] 42 (0, 0)) (by (with_reducible repeat (first | refine blk_drewN ?_ _ | refine blk_drew ?_ | refine blk_alloc ?_ _)); exact BK290.out) hb); have n1_ := Aside0.mk (blk_below (g := gb291) (o := .cells #[.int .i64 a1_0, .string a1_1, .int .i64 a1_2, .int .i64 a1_3, .int .i64 a1_4, .int .i64 a1_5] 42 (0, 0)) (by (with_reducible repeat (first | refine blk_drewN ?_ _ | refine blk_drew ?_ | refine blk_alloc ?_ _)); exact BK291.out) hb); have n2_ := Aside0.mk (below_step (by repeat (first | (with_reducible first | exact HB.out | apply below_alloc | apply pw_below_drewN | apply below_drew1 | refine below_set ?_ GE290.out | refine below_set ?_ GE291.out) | exact HB.out)) hb); clear BK290; clear BK291; clear HB; have BK290 := n0_; have BK291 := n1_; have HB := n2_; clear n0_ n1_ n2_; (try clear hb); (try clear hb2); (try clear hk); (try clear hi)) | ((with_reducible refine gate_dst (N := 5) rfl ?_); refine box_event ?hg (N := 5) ?hd (cs := #[.int .i64 0, .int .i64 0, .int .i64 0]) (t := 26) ?hr ?_; (case hd => rfl); (case hg => rfl); (case hr => first | (go_simp; done) | (go_simp; rfl)); intro gb299 hg w27 hbox hb; have n0_ := Aside0.mk (blk_below (g := gb290) (o := .cells #[.int .i64 a0_0, .string a0_1, .int .i64 a0_2, .int .i64 a0_3, .int .i64 a0_4, .int .i64 a0_5] 42 (0, 0)) (by (with_reducible repeat (first | refine blk_drewN ?_ _ | refine blk_drew ?_ | refine blk_alloc ?_ _)); exact BK290.out) hb); have n1_ := Aside0.mk (blk_below (g := gb291) (o := .cells #[.int .i64 a1_0, .string a1_1, .int .i64 a1_2, .int .i64 a1_3, .int .i64 a1_4, .int .i64 a1_5] 42 (0, 0)) (by (with_reducible repeat (first | refine blk_drewN ?_ _ | refine blk_drew ?_ | refine blk_alloc ?_ _)); exact BK291.out) hb); have n2_ := Aside0.mk (below_step (by repeat (first | (with_reducible first | exact HB.out | apply below_alloc | apply pw_below_drewN | apply below_drew1 | refine below_set ?_ GE290.out | refine below_set ?_ GE291.out) | exact HB.out)) hb); have n3_ := Aside0.mk (hbox); have n4_ := Aside0.mk ((by rw [hg]; exact (below_size (by repeat (first | (with_reducible first | exact HB.out | apply below_alloc | apply pw_below_drewN | apply below_drew1 | refine below_set ?_ GE290.out | refine below_set ?_ GE291.out) | exact HB.out))) : w.heap.size ≤ gb299)); have n5_ := Aside0.mk ((by rw [hg]; exact (below_size (by repeat (first | (with_reducible first | exact HB.out | apply below_alloc | apply pw_below_drewN | apply below_drew1 | refine below_set ?_ GE290.out | refine below_set ?_ GE291.out) | exact HB.out))) : w.heap.size ≤ gb299)); have n6_ := Aside0.mk ((by rw [hg]; exact Nat.ne_of_lt (blk_lt (g := gb290) (o := .cells #[.int .i64 a0_0, .string a0_1, .int .i64 a0_2, .int .i64 a0_3, .int .i64 a0_4, .int .i64 a0_5] 42 (0, 0)) (by (with_reducible repeat (first | refine blk_drewN ?_ _ | refine blk_drew ?_ | refine blk_alloc ?_ _)); exact BK290.out)) : gb290 ≠ gb299)); have n7_ := Aside0.mk ((by rw [hg]; exact Nat.ne_of_gt (blk_lt (g := gb290) (o := .cells #[.int .i64 a0_0, .string a0_1, .int .i64 a0_2, .int .i64 a0_3, .int .i64 a0_4, .int .i64 a0_5] 42 (0, 0)) (by (with_reducible repeat (first | refine blk_drewN ?_ _ | refine blk_drew ?_ | refine blk_alloc ?_ _)); exact BK290.out)) : gb299 ≠ gb290)); have n8_ := Aside0.mk ((by rw [hg]; exact Nat.ne_of_lt (blk_lt (g := gb291) (o := .cells #[.int .i64 a1_0, .string a1_1, .int .i64 a1_2, .int .i64 a1_3, .int .i64 a1_4, .int .i64 a1_5] 42 (0, 0)) (by (with_reducible repeat (first | refine blk_drewN ?_ _ | refine blk_drew ?_ | refine blk_alloc ?_ _)); exact BK291.out)) : gb291 ≠ gb299)); have n9_ := Aside0.mk ((by rw [hg]; exact Nat.ne_of_gt (blk_lt (g := gb291) (o := .cells #[.int .i64 a1_0, .string a1_1, .int .i64 a1_2, .int .i64 a1_3, .int .i64 a1_4, .int .i64 a1_5] 42 (0, 0)) (by (with_reducible repeat (first | refine blk_drewN ?_ _ | refine blk_drew ?_ | refine blk_alloc ?_ _)); exact BK291.out)) : gb299 ≠ gb291)); clear BK290; clear BK291; clear HB; have BK290 := n0_; have BK291 := n1_; have HB := n2_; have BK299 := n3_; have GW299 := n4_; have GE299 := n5_; have NB290_299 := n6_; have NB299_290 := n7_; have NB291_299 := n8_; have NB299_291 := n9_; clear n0_ n1_ n2_ n3_ n4_ n5_ n6_ n7_ n8_ n9_; clear hb hbox hg; have hnb28 := NB299_290.out; have hnc28 := NB290_299.out; have hnb29 := NB299_291.out; have hnc29 := NB291_299.out; have hcz30_0 : w27.cell? ⟨gb299, 0, none⟩ = some (.int .i64 0) := (blk_cell BK299.out 0).trans rfl; have hcz30_1 : w27.cell? ⟨gb299, 1, none⟩ = some (.int .i64 0) := (blk_cell BK299.out 1).trans rfl; have hcz30_2 : w27.cell? ⟨gb299, 2, none⟩ = some (.int .i64 0) := (blk_cell BK299.out 2).trans rfl; have hfz30_0 := blk_frozen BK299.out 0; have hfz30_1 := blk_frozen BK299.out 1; have hfz30_2 := blk_frozen BK299.out 2; have hcz31_0 : w27.cell? ⟨gb291, 0, none⟩ = some (.int .i64 a1_0) := (blk_cell BK291.out 0).trans rfl; have hcz31_1 : w27.cell? ⟨gb291, 1, none⟩ = some (.string a1_1) := (blk_cell BK291.out 1).trans rfl; have hcz31_2 : w27.cell? ⟨gb291, 2, none⟩ = some (.int .i64 a1_2) := (blk_cell BK291.out 2).trans rfl; have hcz31_3 : w27.cell? ⟨gb291, 3, none⟩ = some (.int .i64 a1_3) := (blk_cell BK291.out 3).trans rfl; have hcz31_4 : w27.cell? ⟨gb291, 4, none⟩ = some (.int .i64 a1_4) := (blk_cell BK291.out 4).trans rfl; have hcz31_5 : w27.cell? ⟨gb291, 5, none⟩ = some (.int .i64 a1_5) := (blk_cell BK291.out 5).trans rfl; have hfz31_0 := blk_frozen BK291.out 0; have hfz31_1 := blk_frozen BK291.out 1; have hfz31_2 := blk_frozen BK291.out 2; have hfz31_3 := blk_frozen BK291.out 3; have hfz31_4 := blk_frozen BK291.out 4; have hfz31_5 := blk_frozen BK291.out 5) | ((with_reducible refine gate_callee (f := 12) rfl ?_); refine goesL_ (some 36) rfl rfl Try.func12 (by kernel_rfl) rfl #[.agg #[.string a1_1, .int .i64 a1_2, .int .i64 a1_3], .int .i64 a1_5] rfl (by (try simp only [List.map_toArray, List.map_cons, List.map_nil]); first | done | rfl | (simp only [List.length_drop, List.length_take]; rfl)) ?_; (with_reducible refine (pfair_Window.calls kj4 a1_1 a1_2 a1_3 a1_5 t300 t301 t302 t303 _ A22.out).mono ?_); rintro e w32 ⟨rfl, hb⟩; refine ⟨_, rfl, ?_⟩; have n0_ := Aside0.mk (blk_below (g := gb290) (o := .cells #[.int .i64 a0_0, .string a0_1, .int .i64 a0_2, .int .i64 a0_3, .int .i64 a0_4, .int .i64 a0_5] 42 (0, 0)) (by (with_reducible repeat (first | refine blk_drewN ?_ _ | refine blk_drew ?_ | refine blk_alloc ?_ _)); refine blk_far ?_ NB290_299.out _; (with_reducible repeat (first | refine blk_drewN ?_ _ | refine blk_drew ?_ | refine blk_alloc ?_ _)); refine blk_far ?_ NB290_299.out _; (with_reducible repeat (first | refine blk_drewN ?_ _ | refine blk_drew ?_ | refine blk_alloc ?_ _)); refine blk_far ?_ NB290_299.out _; (with_reducible repeat (first | refine blk_drewN ?_ _ | refine blk_drew ?_ | refine blk_alloc ?_ _)); exact BK290.out) hb); have n1_ := Aside0.mk (blk_below (g := gb291) (o := .cells #[.int .i64 a1_0, .string a1_1, .int .i64 a1_2, .int .i64 a1_3, .int .i64 a1_4, .int .i64 a1_5] 42 (0, 0)) (by (with_reducible repeat (first | refine blk_drewN ?_ _ | refine blk_drew ?_ | refine blk_alloc ?_ _)); refine blk_far ?_ NB291_299.out _; (with_reducible repeat (first | refine blk_drewN ?_ _ | refine blk_drew ?_ | refine blk_alloc ?_ _)); refine blk_far ?_ NB291_299.out _; (with_reducible repeat (first | refine blk_drewN ?_ _ | refine blk_drew ?_ | refine blk_alloc ?_ _)); refine blk_far ?_ NB291_299.out _; (with_reducible repeat (first | refine blk_drewN ?_ _ | refine blk_drew ?_ | refine blk_alloc ?_ _)); exact BK291.out) hb); have n2_ := Aside0.mk (blk_below (g := gb299) (o := .cells #[.int .i64 t295, .int .i64 t296, .int .i64 t297] 26 (0, 0)) (by (with_reducible repeat (first | refine blk_drewN ?_ _ | refine blk_drew ?_ | refine blk_alloc ?_ _)); refine blk_put (cs := #[.int .i64 t295, .int .i64 t296, .int .i64 0]) ?_ 2 _ rfl; (with_reducible repeat (first | refine blk_drewN ?_ _ | refine blk_drew ?_ | refine blk_alloc ?_ _)); refine blk_put (cs := #[.int .i64 t295, .int .i64 0, .int .i64 0]) ?_ 1 _ rfl; (with_reducible repeat (first | refine blk_drewN ?_ _ | refine blk_drew ?_ | refine blk_alloc ?_ _)); refine blk_put (cs := #[.int .i64 0, .int .i64 0, .int .i64 0]) ?_ 0 _ rfl; (with_reducible repeat (first | refine blk_drewN ?_ _ | refine blk_drew ?_ | refine blk_alloc ?_ _)); exact BK299.out) hb); have n3_ := Aside0.mk (below_step (by repeat (first | (with_reducible first | exact HB.out | apply below_alloc | apply pw_below_drewN | apply below_drew1 | refine below_set ?_ GE290.out | refine below_set ?_ GE291.out | refine below_set ?_ GE299.out) | exact HB.out)) hb); clear BK290; clear BK291; clear BK299; clear HB; have BK290 := n0_; have BK291 := n1_; have BK299 := n2_; have HB := n3_; clear n0_ n1_ n2_ n3_; (try clear hb); (try clear hb2); (try clear hk); (try clear hi)) | ((with_reducible refine gate_dst (N := 7) rfl ?_); refine box_event ?hg (N := 7) ?hd (cs := #[.int .i64 0, .int .i64 0, .int .i64 0]) (t := 26) ?hr ?_; (case hd => rfl); (case hg => rfl); (case hr => first | (go_simp; done) | (go_simp; rfl)); intro gb304 hg w33 hbox hb; have n0_ := Aside0.mk (blk_below (g := gb290) (o := .cells #[.int .i64 a0_0, .string a0_1, .int .i64 a0_2, .int .i64 a0_3, .int .i64 a0_4, .int .i64 a0_5] 42 (0, 0)) (by (with_reducible repeat (first | refine blk_drewN ?_ _ | refine blk_drew ?_ | refine blk_alloc ?_ _)); exact BK290.out) hb); have n1_ := Aside0.mk (blk_below (g := gb291) (o := .cells #[.int .i64 a1_0, .string a1_1, .int .i64 a1_2, .int .i64 a1_3, .int .i64 a1_4, .int .i64 a1_5] 42 (0, 0)) (by (with_reducible repeat (first | refine blk_drewN ?_ _ | refine blk_drew ?_ | refine blk_alloc ?_ _)); exact BK291.out) hb); have n2_ := Aside0.mk (blk_below (g := gb299) (o := .cells #[.int .i64 t295, .int .i64 t296, .int .i64 t297] 26 (0, 0)) (by (with_reducible repeat (first | refine blk_drewN ?_ _ | refine blk_drew ?_ | refine blk_alloc ?_ _)); exact BK299.out) hb); have n3_ := Aside0.mk (below_step (by repeat (first | (with_reducible first | exact HB.out | apply below_alloc | apply pw_below_drewN | apply below_drew1 | refine below_set ?_ GE290.out | refine below_set ?_ GE291.out | refine below_set ?_ GE299.out) | exact HB.out)) hb); have n4_ := Aside0.mk (hbox); have n5_ := Aside0.mk ((by rw [hg]; exact (below_size (by repeat (first | (with_reducible first | exact HB.out | apply below_alloc | apply pw_below_drewN | apply below_drew1 | refine below_set ?_ GE290.out | refine below_set ?_ GE291.out | refine below_set ?_ GE299.out) | exact HB.out))) : w.heap.size ≤ gb304)); have n6_ := Aside0.mk ((by rw [hg]; exact (below_size (by repeat (first | (with_reducible first | exact HB.out | apply below_alloc | apply pw_below_drewN | apply below_drew1 | refine below_set ?_ GE290.out | refine below_set ?_ GE291.out | refine below_set ?_ GE299.out) | exact HB.out))) : w.heap.size ≤ gb304)); have n7_ := Aside0.mk ((by rw [hg]; exact Nat.ne_of_lt (blk_lt (g := gb290) (o := .cells #[.int .i64 a0_0, .string a0_1, .int .i64 a0_2, .int .i64 a0_3, .int .i64 a0_4, .int .i64 a0_5] 42 (0, 0)) (by (with_reducible repeat (first | refine blk_drewN ?_ _ | refine blk_drew ?_ | refine blk_alloc ?_ _)); exact BK290.out)) : gb290 ≠ gb304)); have n8_ := Aside0.mk ((by rw [hg]; exact Nat.ne_of_gt (blk_lt (g := gb290) (o := .cells #[.int .i64 a0_0, .string a0_1, .int .i64 a0_2, .int .i64 a0_3, .int .i64 a0_4, .int .i64 a0_5] 42 (0, 0)) (by (with_reducible repeat (first | refine blk_drewN ?_ _ | refine blk_drew ?_ | refine blk_alloc ?_ _)); exact BK290.out)) : gb304 ≠ gb290)); have n9_ := Aside0.mk ((by rw [hg]; exact Nat.ne_of_lt (blk_lt (g := gb291) (o := .cells #[.int .i64 a1_0, .string a1_1, .int .i64 a1_2, .int .i64 a1_3, .int .i64 a1_4, .int .i64 a1_5] 42 (0, 0)) (by (with_reducible repeat (first | refine blk_drewN ?_ _ | refine blk_drew ?_ | refine blk_alloc ?_ _)); exact BK291.out)) : gb291 ≠ gb304)); have n10_ := Aside0.mk ((by rw [hg]; exact Nat.ne_of_gt (blk_lt (g := gb291) (o := .cells #[.int .i64 a1_0, .string a1_1, .int .i64 a1_2, .int .i64 a1_3, .int .i64 a1_4, .int .i64 a1_5] 42 (0, 0)) (by (with_reducible repeat (first | refine blk_drewN ?_ _ | refine blk_drew ?_ | refine blk_alloc ?_ _)); exact BK291.out)) : gb304 ≠ gb291)); have n11_ := Aside0.mk ((by rw [hg]; exact Nat.ne_of_lt (blk_lt (g := gb299) (o := .cells #[.int .i64 t295, .int .i64 t296, .int .i64 t297] 26 (0, 0)) (by (with_reducible repeat (first | refine blk_drewN ?_ _ | refine blk_drew ?_ | refine blk_alloc ?_ _)); exact BK299.out)) : gb299 ≠ gb304)); have n12_ := Aside0.mk ((by rw [hg]; exact Nat.ne_of_gt (blk_lt (g := gb299) (o := .cells #[.int .i64 t295, .int .i64 t296, .int .i64 t297] 26 (0, 0)) (by (with_reducible repeat (first | refine blk_drewN ?_ _ | refine blk_drew ?_ | refine blk_alloc ?_ _)); exact BK299.out)) : gb304 ≠ gb299)); clear BK290; clear BK291; clear BK299; clear HB; have BK290 := n0_; have BK291 := n1_; have BK299 := n2_; have HB := n3_; have BK304 := n4_; have GW304 := n5_; have GE304 := n6_; have NB290_304 := n7_; have NB304_290 := n8_; have NB291_304 := n9_; have NB304_291 := n10_; have NB299_304 := n11_; have NB304_299 := n12_; clear n0_ n1_ n2_ n3_ n4_ n5_ n6_ n7_ n8_ n9_ n10_ n11_ n12_; clear hb hbox hg; have hnb34 := NB304_290.out; have hnc34 := NB290_304.out; have hnb35 := NB304_291.out; have hnc35 := NB291_304.out; have hnb36 := NB304_299.out; have hnc36 := NB299_304.out; have hcz37_0 : w33.cell? ⟨gb304, 0, none⟩ = some (.int .i64 0) := (blk_cell BK304.out 0).trans rfl; have hcz37_1 : w33.cell? ⟨gb304, 1, none⟩ = some (.int .i64 0) := (blk_cell BK304.out 1).trans rfl; have hcz37_2 : w33.cell? ⟨gb304, 2, none⟩ = some (.int .i64 0) := (blk_cell BK304.out 2).trans rfl; have hfz37_0 := blk_frozen BK304.out 0; have hfz37_1 := blk_frozen BK304.out 1; have hfz37_2 := blk_frozen BK304.out 2))
          (try simp only [Act.put, List.setIfInBounds_toArray, List.set_cons_zero, List.set_cons_succ])
          go_cut [44] (fun v44 wc => ∃ (kq : Nat) (x44_22 : Bool), v44 = .bool x44_22 ∧ Aside0 (ontimelaw45_PfairDeadlines.j1 kq x44_22 a0_0 a0_1 a0_2 a0_3 a0_4 a0_5 a1_0 a1_1 a1_2 a1_3 a1_4 a1_5 t295 t296 t297 t300 t301 t302 = some r) ∧ Aside0 (kq ≤ kj4) ∧ Aside0 (wc.heap[gb290]? = some (.cells #[.int .i64 a0_0, .string a0_1, .int .i64 a0_2, .int .i64 a0_3, .int .i64 a0_4, .int .i64 a0_5] 42 (0, 0))) ∧ Aside0 (wc.heap[gb291]? = some (.cells #[.int .i64 a1_0, .string a1_1, .int .i64 a1_2, .int .i64 a1_3, .int .i64 a1_4, .int .i64 a1_5] 42 (0, 0))) ∧ Aside0 (wc.heap[gb299]? = some (.cells #[.int .i64 t295, .int .i64 t296, .int .i64 t297] 26 (0, 0))) ∧ Aside0 (wc.heap[gb304]? = some (.cells #[.int .i64 t300, .int .i64 t301, .int .i64 t302] 26 (0, 0))) ∧ Aside0 (Below w.heap.size w wc))
          case first =>
            have H := HC23.out
            clear HC23
            by_cases c38 : t298 = 0
            · rw [if_pos c38] at H
              have c38b0 : (t298 == 0) = true := beq_iff_eq.mpr c38
              have c38b1 : (t298 != 0) = false := bne_eq_false_iff_eq.mpr c38
              clear c38
              (first | rw [c38b0] | (simp only [i64_w, i32_w]; rw [c38b0]) | skip)
              have H' := Aside0.mk H
              clear H
              go_wp2
              go_meet
              case rel => exact ⟨_, ((t303 != 0)), (by first | rfl | (simp; done) | (simp [*]; done)), H', ⟨by have := HJ4.out; first | omega | exact Nat.le_refl _⟩, ⟨by (with_reducible repeat (first | refine blk_drewN ?_ _ | refine blk_drew ?_ | refine blk_alloc ?_ _)); refine blk_far ?_ NB290_304.out _; (with_reducible repeat (first | refine blk_drewN ?_ _ | refine blk_drew ?_ | refine blk_alloc ?_ _)); refine blk_far ?_ NB290_304.out _; (with_reducible repeat (first | refine blk_drewN ?_ _ | refine blk_drew ?_ | refine blk_alloc ?_ _)); refine blk_far ?_ NB290_304.out _; (with_reducible repeat (first | refine blk_drewN ?_ _ | refine blk_drew ?_ | refine blk_alloc ?_ _)); exact BK290.out⟩, ⟨by (with_reducible repeat (first | refine blk_drewN ?_ _ | refine blk_drew ?_ | refine blk_alloc ?_ _)); refine blk_far ?_ NB291_304.out _; (with_reducible repeat (first | refine blk_drewN ?_ _ | refine blk_drew ?_ | refine blk_alloc ?_ _)); refine blk_far ?_ NB291_304.out _; (with_reducible repeat (first | refine blk_drewN ?_ _ | refine blk_drew ?_ | refine blk_alloc ?_ _)); refine blk_far ?_ NB291_304.out _; (with_reducible repeat (first | refine blk_drewN ?_ _ | refine blk_drew ?_ | refine blk_alloc ?_ _)); exact BK291.out⟩, ⟨by (with_reducible repeat (first | refine blk_drewN ?_ _ | refine blk_drew ?_ | refine blk_alloc ?_ _)); refine blk_far ?_ NB299_304.out _; (with_reducible repeat (first | refine blk_drewN ?_ _ | refine blk_drew ?_ | refine blk_alloc ?_ _)); refine blk_far ?_ NB299_304.out _; (with_reducible repeat (first | refine blk_drewN ?_ _ | refine blk_drew ?_ | refine blk_alloc ?_ _)); refine blk_far ?_ NB299_304.out _; (with_reducible repeat (first | refine blk_drewN ?_ _ | refine blk_drew ?_ | refine blk_alloc ?_ _)); exact BK299.out⟩, ⟨by (with_reducible repeat (first | refine blk_drewN ?_ _ | refine blk_drew ?_ | refine blk_alloc ?_ _)); refine blk_put (cs := #[.int .i64 t300, .int .i64 t301, .int .i64 0]) ?_ 2 _ rfl; (with_reducible repeat (first | refine blk_drewN ?_ _ | refine blk_drew ?_ | refine blk_alloc ?_ _)); refine blk_put (cs := #[.int .i64 t300, .int .i64 0, .int .i64 0]) ?_ 1 _ rfl; (with_reducible repeat (first | refine blk_drewN ?_ _ | refine blk_drew ?_ | refine blk_alloc ?_ _)); refine blk_put (cs := #[.int .i64 0, .int .i64 0, .int .i64 0]) ?_ 0 _ rfl; (with_reducible repeat (first | refine blk_drewN ?_ _ | refine blk_drew ?_ | refine blk_alloc ?_ _)); exact BK304.out⟩, ⟨by repeat (first | (with_reducible first | exact HB.out | apply below_alloc | apply pw_below_drewN | apply below_drew1 | refine below_set ?_ GE290.out | refine below_set ?_ GE291.out | refine below_set ?_ GE299.out | refine below_set ?_ GE304.out) | exact HB.out)⟩⟩
            · rw [if_neg c38] at H
              have c38b0 : (t298 == 0) = false := beq_eq_false_iff_ne.mpr c38
              have c38b1 : (t298 != 0) = true := bne_iff_ne.mpr c38
              (first | rw [c38b0] | (simp only [i64_w, i32_w]; rw [c38b0]) | skip)
              have H' := Aside0.mk H
              clear H
              go_wp2
              go_meet
              case rel => exact ⟨_, (true), (by first | rfl | (simp; done) | (simp [*]; done)), H', ⟨by have := HJ4.out; first | omega | exact Nat.le_refl _⟩, ⟨by (with_reducible repeat (first | refine blk_drewN ?_ _ | refine blk_drew ?_ | refine blk_alloc ?_ _)); refine blk_far ?_ NB290_304.out _; (with_reducible repeat (first | refine blk_drewN ?_ _ | refine blk_drew ?_ | refine blk_alloc ?_ _)); refine blk_far ?_ NB290_304.out _; (with_reducible repeat (first | refine blk_drewN ?_ _ | refine blk_drew ?_ | refine blk_alloc ?_ _)); refine blk_far ?_ NB290_304.out _; (with_reducible repeat (first | refine blk_drewN ?_ _ | refine blk_drew ?_ | refine blk_alloc ?_ _)); exact BK290.out⟩, ⟨by (with_reducible repeat (first | refine blk_drewN ?_ _ | refine blk_drew ?_ | refine blk_alloc ?_ _)); refine blk_far ?_ NB291_304.out _; (with_reducible repeat (first | refine blk_drewN ?_ _ | refine blk_drew ?_ | refine blk_alloc ?_ _)); refine blk_far ?_ NB291_304.out _; (with_reducible repeat (first | refine blk_drewN ?_ _ | refine blk_drew ?_ | refine blk_alloc ?_ _)); refine blk_far ?_ NB291_304.out _; (with_reducible repeat (first | refine blk_drewN ?_ _ | refine blk_drew ?_ | refine blk_alloc ?_ _)); exact BK291.out⟩, ⟨by (with_reducible repeat (first | refine blk_drewN ?_ _ | refine blk_drew ?_ | refine blk_alloc ?_ _)); refine blk_far ?_ NB299_304.out _; (with_reducible repeat (first | refine blk_drewN ?_ _ | refine blk_drew ?_ | refine blk_alloc ?_ _)); refine blk_far ?_ NB299_304.out _; (with_reducible repeat (first | refine blk_drewN ?_ _ | refine blk_drew ?_ | refine blk_alloc ?_ _)); refine blk_far ?_ NB299_304.out _; (with_reducible repeat (first | refine blk_drewN ?_ _ | refine blk_drew ?_ | refine blk_alloc ?_ _)); exact BK299.out⟩, ⟨by (with_reducible repeat (first | refine blk_drewN ?_ _ | refine blk_drew ?_ | refine blk_alloc ?_ _)); refine blk_put (cs := #[.int .i64 t300, .int .i64 t301, .int .i64 0]) ?_ 2 _ rfl; (with_reducible repeat (first | refine blk_drewN ?_ _ | refine blk_drew ?_ | refine blk_alloc ?_ _)); refine blk_put (cs := #[.int .i64 t300, .int .i64 0, .int .i64 0]) ?_ 1 _ rfl; (with_reducible repeat (first | refine blk_drewN ?_ _ | refine blk_drew ?_ | refine blk_alloc ?_ _)); refine blk_put (cs := #[.int .i64 0, .int .i64 0, .int .i64 0]) ?_ 0 _ rfl; (with_reducible repeat (first | refine blk_drewN ?_ _ | refine blk_drew ?_ | refine blk_alloc ?_ _)); exact BK304.out⟩, ⟨by repeat (first | (with_reducible first | exact HB.out | apply below_alloc | apply pw_below_drewN | apply below_drew1 | refine below_set ?_ GE290.out | refine below_set ?_ GE291.out | refine below_set ?_ GE299.out | refine below_set ?_ GE304.out) | exact HB.out)⟩⟩
          case rest =>
            clear HC23
            try clear c1
            try clear c2
            try clear p2
            try clear c3
            try clear c4
            try clear c10
            try clear c10b0
            try clear c10b1
            try clear c11
            try clear c12
            try clear c15
            try clear c20
            try clear c23
            try clear c24
            try clear c28
            try clear c29
            try clear c34
            try clear c35
            try clear c36
            try clear c38
            try clear c38b0
            try clear c38b1
            try clear hcz12_0
            try clear hcz12_1
            try clear hcz12_2
            try clear hcz12_3
            try clear hcz12_4
            try clear hcz12_5
            try clear hcz16_0
            try clear hcz16_1
            try clear hcz16_2
            try clear hcz16_3
            try clear hcz16_4
            try clear hcz16_5
            try clear hcz18_0
            try clear hcz18_1
            try clear hcz18_2
            try clear hcz18_3
            try clear hcz18_4
            try clear hcz18_5
            try clear hcz25_0
            try clear hcz25_1
            try clear hcz25_2
            try clear hcz25_3
            try clear hcz25_4
            try clear hcz25_5
            try clear hcz30_0
            try clear hcz30_1
            try clear hcz30_2
            try clear hcz31_0
            try clear hcz31_1
            try clear hcz31_2
            try clear hcz31_3
            try clear hcz31_4
            try clear hcz31_5
            try clear hcz37_0
            try clear hcz37_1
            try clear hcz37_2
            try clear hfz12_0
            try clear hfz12_1
            try clear hfz12_2
            try clear hfz12_3
            try clear hfz12_4
            try clear hfz12_5
            try clear hfz16_0
            try clear hfz16_1
            try clear hfz16_2
            try clear hfz16_3
            try clear hfz16_4
            try clear hfz16_5
            try clear hfz18_0
            try clear hfz18_1
            try clear hfz18_2
            try clear hfz18_3
            try clear hfz18_4
            try clear hfz18_5
            try clear hfz25_0
            try clear hfz25_1
            try clear hfz25_2
            try clear hfz25_3
            try clear hfz25_4
            try clear hfz25_5
            try clear hfz30_0
            try clear hfz30_1
            try clear hfz30_2
            try clear hfz31_0
            try clear hfz31_1
            try clear hfz31_2
            try clear hfz31_3
            try clear hfz31_4
            try clear hfz31_5
            try clear hfz37_0
            try clear hfz37_1
            try clear hfz37_2
            try clear p2
            obtain ⟨kq, x44_22, rfl, HA, HJ22, BK290, BK291, BK299, BK304, HB⟩ := hcut
            cases kq with
            | zero => exact absurd HA.out (by simp [ontimelaw45_PfairDeadlines.j1])
            | succ kj22 =>
              have H := HA.out
              clear HA
              simp only [ontimelaw45_PfairDeadlines.j1] at H
              by_cases c39 : x44_22 = true
              · subst c39
                have H1 : (some false) = some r := by rw [if_pos rfl] at H; exact H
                clear H
                have H := H1
                clear H1
                obtain rfl := Option.some.inj H
                go_wp2
                go_ret
                exact ⟨by first | rfl | (simp [errW_none, errW_some] <;> rfl) | (simp [*, errW_none, errW_some] <;> rfl), by repeat (first | (with_reducible first | exact HB.out | apply below_alloc | apply pw_below_drewN | apply below_drew1 | refine below_set ?_ GE290.out | refine below_set ?_ GE291.out | refine below_set ?_ GE299.out | refine below_set ?_ GE304.out) | exact HB.out)⟩
              · replace c39 := Bool.eq_false_iff.mpr c39
                subst c39
                have H1 : ((pfair_Overlaps.f kj22 a0_1 a0_2 a0_3 a0_5).bind fun t305 => ((pfair_Overlaps.f kj22 a1_1 a1_2 a1_3 a1_5).bind fun t306 => (if (wrap64 (a0_4 + t297)) < (wrap64 (a1_4 + t302)) then (ontimelaw45_PfairDeadlines.j2 kj22 true a0_0 a0_1 a0_2 a0_3 a0_4 a0_5 a1_0 a1_1 a1_2 a1_3 a1_4 a1_5) else (if (wrap64 (a0_4 + t297)) = (wrap64 (a1_4 + t302)) then (if t305 = true then (ontimelaw45_PfairDeadlines.j2 kj22 (!t306) a0_0 a0_1 a0_2 a0_3 a0_4 a0_5 a1_0 a1_1 a1_2 a1_3 a1_4 a1_5) else (ontimelaw45_PfairDeadlines.j2 kj22 false a0_0 a0_1 a0_2 a0_3 a0_4 a0_5 a1_0 a1_1 a1_2 a1_3 a1_4 a1_5)) else (ontimelaw45_PfairDeadlines.j2 kj22 false a0_0 a0_1 a0_2 a0_3 a0_4 a0_5 a1_0 a1_1 a1_2 a1_3 a1_4 a1_5))))) = some r := by rw [if_neg (show ¬ (false = true) by decide)] at H; exact H
                clear H
                have H := H1
                clear H1
                replace H := Option.bind_eq_some_iff.mp H
                obtain ⟨t305, A400, H⟩ := H
                replace H : ((pfair_Overlaps.f kj22 a1_1 a1_2 a1_3 a1_5).bind fun t306 => (if (wrap64 (a0_4 + t297)) < (wrap64 (a1_4 + t302)) then (ontimelaw45_PfairDeadlines.j2 kj22 true a0_0 a0_1 a0_2 a0_3 a0_4 a0_5 a1_0 a1_1 a1_2 a1_3 a1_4 a1_5) else (if (wrap64 (a0_4 + t297)) = (wrap64 (a1_4 + t302)) then (if t305 = true then (ontimelaw45_PfairDeadlines.j2 kj22 (!t306) a0_0 a0_1 a0_2 a0_3 a0_4 a0_5 a1_0 a1_1 a1_2 a1_3 a1_4 a1_5) else (ontimelaw45_PfairDeadlines.j2 kj22 false a0_0 a0_1 a0_2 a0_3 a0_4 a0_5 a1_0 a1_1 a1_2 a1_3 a1_4 a1_5)) else (ontimelaw45_PfairDeadlines.j2 kj22 false a0_0 a0_1 a0_2 a0_3 a0_4 a0_5 a1_0 a1_1 a1_2 a1_3 a1_4 a1_5)))) = some r := H
                have A40 := Aside0.mk A400
                clear A400
                replace H := Option.bind_eq_some_iff.mp H
                obtain ⟨t306, A410, H⟩ := H
                replace H : (if (wrap64 (a0_4 + t297)) < (wrap64 (a1_4 + t302)) then (ontimelaw45_PfairDeadlines.j2 kj22 true a0_0 a0_1 a0_2 a0_3 a0_4 a0_5 a1_0 a1_1 a1_2 a1_3 a1_4 a1_5) else (if (wrap64 (a0_4 + t297)) = (wrap64 (a1_4 + t302)) then (if t305 = true then (ontimelaw45_PfairDeadlines.j2 kj22 (!t306) a0_0 a0_1 a0_2 a0_3 a0_4 a0_5 a1_0 a1_1 a1_2 a1_3 a1_4 a1_5) else (ontimelaw45_PfairDeadlines.j2 kj22 false a0_0 a0_1 a0_2 a0_3 a0_4 a0_5 a1_0 a1_1 a1_2 a1_3 a1_4 a1_5)) else (ontimelaw45_PfairDeadlines.j2 kj22 false a0_0 a0_1 a0_2 a0_3 a0_4 a0_5 a1_0 a1_1 a1_2 a1_3 a1_4 a1_5))) = some r := H
                have A41 := Aside0.mk A410
                clear A410
                have HC42 := Aside0.mk H
                clear H
                try go_wp2
                have n0_ := Aside0.mk (blk_drew BK290.out)
                have n1_ := Aside0.mk (blk_drew BK291.out)
                have n2_ := Aside0.mk (blk_drew BK299.out)
                have n3_ := Aside0.mk (blk_drew BK304.out)
                have n4_ := Aside0.mk (below_drew1 HB.out)
                clear BK290
                clear BK291
                clear BK299
                clear BK304
                clear HB
                have BK290 := n0_
                have BK291 := n1_
                have BK299 := n2_
                have BK304 := n3_
                have HB := n4_
                clear n0_ n1_ n2_ n3_ n4_
                refine start_ (n := 12) (S := fun w' => w'.cell? ⟨gb290, 0, none⟩ = some (.int .i64 a0_0) ∧ w'.cell? ⟨gb290, 1, none⟩ = some (.string a0_1) ∧ w'.cell? ⟨gb290, 2, none⟩ = some (.int .i64 a0_2) ∧ w'.cell? ⟨gb290, 3, none⟩ = some (.int .i64 a0_3) ∧ w'.cell? ⟨gb290, 4, none⟩ = some (.int .i64 a0_4) ∧ w'.cell? ⟨gb290, 5, none⟩ = some (.int .i64 a0_5) ∧ w'.cell? ⟨gb299, 0, none⟩ = some (.int .i64 t295) ∧ w'.cell? ⟨gb299, 1, none⟩ = some (.int .i64 t296) ∧ w'.cell? ⟨gb299, 2, none⟩ = some (.int .i64 t297) ∧ w'.cell? ⟨gb291, 0, none⟩ = some (.int .i64 a1_0) ∧ w'.cell? ⟨gb291, 1, none⟩ = some (.string a1_1) ∧ w'.cell? ⟨gb291, 2, none⟩ = some (.int .i64 a1_2) ∧ w'.cell? ⟨gb291, 3, none⟩ = some (.int .i64 a1_3) ∧ w'.cell? ⟨gb291, 4, none⟩ = some (.int .i64 a1_4) ∧ w'.cell? ⟨gb291, 5, none⟩ = some (.int .i64 a1_5) ∧ w'.cell? ⟨gb304, 0, none⟩ = some (.int .i64 t300) ∧ w'.cell? ⟨gb304, 1, none⟩ = some (.int .i64 t301) ∧ w'.cell? ⟨gb304, 2, none⟩ = some (.int .i64 t302)) (ds := []) #[false, false, false, false, false, false, false, false, false, false, false, false] (by kernel_rfl) rfl rfl ⟨(blk_cell BK290.out 0).trans rfl, (blk_cell BK290.out 1).trans rfl, (blk_cell BK290.out 2).trans rfl, (blk_cell BK290.out 3).trans rfl, (blk_cell BK290.out 4).trans rfl, (blk_cell BK290.out 5).trans rfl, (blk_cell BK299.out 0).trans rfl, (blk_cell BK299.out 1).trans rfl, (blk_cell BK299.out 2).trans rfl, (blk_cell BK291.out 0).trans rfl, (blk_cell BK291.out 1).trans rfl, (blk_cell BK291.out 2).trans rfl, (blk_cell BK291.out 3).trans rfl, (blk_cell BK291.out 4).trans rfl, (blk_cell BK291.out 5).trans rfl, (blk_cell BK304.out 0).trans rfl, (blk_cell BK304.out 1).trans rfl, (blk_cell BK304.out 2).trans rfl⟩ (fun hHeld => ?_); refine with_tabW ontimelaw45_PfairDeadlines.tab9 ontimelaw45_PfairDeadlines.bits9 (fun HT_ HW_ => ?_)
                generalize wc.drew = w43 at BK290 BK291 BK299 BK304 HB hHeld ⊢
                refine pure_ (i := 0) (N := some 45) (v := ?_) (a' := ?_) #[true, false, false, false, false, false, false, false, false, false, false, false] rfl rfl (any_of HT_.out (by kernel_rfl)) (fun _ _ _ h => h) (Or.inl ⟨by rfl, ?_⟩) ?_ ?_
                rotate_left
                · intro w'
                  go_simp
                  with_reducible rfl
                rotate_left
                · simp only [Act.put, List.setIfInBounds_toArray, List.set_cons_zero, List.set_cons_succ, i64_w, i32_w]
                  rfl
                refine pure_ (i := 2) (N := some 47) (v := ?_) (a' := ?_) #[true, false, true, false, false, false, false, false, false, false, false, false] rfl rfl (any_of HT_.out (by kernel_rfl)) (fun _ _ _ h => h) (Or.inl ⟨by rfl, ?_⟩) ?_ ?_
                rotate_left
                · intro w'
                  go_simp
                  with_reducible rfl
                rotate_left
                · simp only [Act.put, List.setIfInBounds_toArray, List.set_cons_zero, List.set_cons_succ, i64_w, i32_w]
                  rfl
                refine pure_ (i := 5) (N := some 50) (v := ?_) (a' := ?_) #[true, false, true, false, false, true, false, false, false, false, false, false] rfl rfl (any_of HT_.out (by kernel_rfl)) (fun _ _ _ h => h) (Or.inl ⟨by rfl, ?_⟩) ?_ ?_
                rotate_left
                · intro w'
                  go_simp
                  with_reducible rfl
                rotate_left
                · simp only [Act.put, List.setIfInBounds_toArray, List.set_cons_zero, List.set_cons_succ, i64_w, i32_w]
                  rfl
                refine pure_ (i := 7) (N := some 52) (v := ?_) (a' := ?_) #[true, false, true, false, false, true, false, true, false, false, false, false] rfl rfl (any_of HT_.out (by kernel_rfl)) (fun _ _ _ h => h) (Or.inl ⟨by rfl, ?_⟩) ?_ ?_
                rotate_left
                · intro w'
                  go_simp
                  with_reducible rfl
                rotate_left
                · simp only [Act.put, List.setIfInBounds_toArray, List.set_cons_zero, List.set_cons_succ, i64_w, i32_w]
                  rfl
                refine take_ (i := 1) (N := some 46) (v := ?_) (a' := ?_) #[true, true, true, false, false, true, false, true, false, false, false, false] rfl rfl (take_ofW HT_.out HW_.out (by kernel_rfl)) (fun _ _ _ h => h) (Or.inl ⟨by rfl, ?_⟩) hHeld ?_ ?_
                rotate_left
                · rintro w' ⟨s0, s1, s2, s3, s4, s5, s6, s7, s8, s9, s10, s11, s12, s13, s14, s15, s16, s17⟩
                  go_simp
                  with_reducible rfl
                rotate_left
                · simp only [Act.put, List.setIfInBounds_toArray, List.set_cons_zero, List.set_cons_succ, i64_w, i32_w]
                  rfl
                refine take_ (i := 3) (N := some 48) (v := ?_) (a' := ?_) #[true, true, true, true, false, true, false, true, false, false, false, false] rfl rfl (take_ofW HT_.out HW_.out (by kernel_rfl)) (fun _ _ _ h => h) (Or.inl ⟨by rfl, ?_⟩) hHeld ?_ ?_
                rotate_left
                · rintro w' ⟨s0, s1, s2, s3, s4, s5, s6, s7, s8, s9, s10, s11, s12, s13, s14, s15, s16, s17⟩
                  go_simp
                  with_reducible rfl
                rotate_left
                · simp only [Act.put, List.setIfInBounds_toArray, List.set_cons_zero, List.set_cons_succ, i64_w, i32_w]
                  rfl
                refine pure_ (i := 4) (N := some 49) (v := ?_) (a' := ?_) #[true, true, true, true, true, true, false, true, false, false, false, false] rfl rfl (any_of HT_.out (by kernel_rfl)) (fun _ _ _ h => h) (Or.inl ⟨by rfl, ?_⟩) ?_ ?_
                rotate_left
                · intro w'
                  go_simp
                  with_reducible rfl
                rotate_left
                · simp only [Act.put, List.setIfInBounds_toArray, List.set_cons_zero, List.set_cons_succ, i64_w, i32_w]
                  rfl
                refine pure_ (i := 10) (N := some 9) (v := ?_) (a' := ?_) #[true, true, true, true, true, true, false, true, false, false, true, false] rfl rfl (any_of HT_.out (by kernel_rfl)) (fun _ _ _ h => h) (Or.inl ⟨by rfl, ?_⟩) ?_ ?_
                rotate_left
                · intro w'
                  go_simp
                  with_reducible rfl
                rotate_left
                · simp only [Act.put, List.setIfInBounds_toArray, List.set_cons_zero, List.set_cons_succ, i64_w, i32_w]
                  rfl
                refine take_ (i := 6) (N := some 51) (v := ?_) (a' := ?_) #[true, true, true, true, true, true, true, true, false, false, true, false] rfl rfl (take_ofW HT_.out HW_.out (by kernel_rfl)) (fun _ _ _ h => h) (Or.inl ⟨by rfl, ?_⟩) hHeld ?_ ?_
                rotate_left
                · rintro w' ⟨s0, s1, s2, s3, s4, s5, s6, s7, s8, s9, s10, s11, s12, s13, s14, s15, s16, s17⟩
                  go_simp
                  with_reducible rfl
                rotate_left
                · simp only [Act.put, List.setIfInBounds_toArray, List.set_cons_zero, List.set_cons_succ, i64_w, i32_w]
                  rfl
                refine take_ (i := 8) (N := some 53) (v := ?_) (a' := ?_) #[true, true, true, true, true, true, true, true, true, false, true, false] rfl rfl (take_ofW HT_.out HW_.out (by kernel_rfl)) (fun _ _ _ h => h) (Or.inl ⟨by rfl, ?_⟩) hHeld ?_ ?_
                rotate_left
                · rintro w' ⟨s0, s1, s2, s3, s4, s5, s6, s7, s8, s9, s10, s11, s12, s13, s14, s15, s16, s17⟩
                  go_simp
                  with_reducible rfl
                rotate_left
                · simp only [Act.put, List.setIfInBounds_toArray, List.set_cons_zero, List.set_cons_succ, i64_w, i32_w]
                  rfl
                refine pure_ (i := 9) (N := some 54) (v := ?_) (a' := ?_) #[true, true, true, true, true, true, true, true, true, true, true, false] rfl rfl (any_of HT_.out (by kernel_rfl)) (fun _ _ _ h => h) (Or.inl ⟨by rfl, ?_⟩) ?_ ?_
                rotate_left
                · intro w'
                  go_simp
                  with_reducible rfl
                rotate_left
                · simp only [Act.put, List.setIfInBounds_toArray, List.set_cons_zero, List.set_cons_succ, i64_w, i32_w]
                  rfl
                refine pure_ (i := 11) (N := some 10) (v := ?_) (a' := ?_) #[true, true, true, true, true, true, true, true, true, true, true, true] rfl rfl (any_of HT_.out (by kernel_rfl)) (fun _ _ _ h => h) (Or.inl ⟨by rfl, ?_⟩) ?_ ?_
                rotate_left
                · intro w'
                  go_simp
                  with_reducible rfl
                rotate_left
                · simp only [Act.put, List.setIfInBounds_toArray, List.set_cons_zero, List.set_cons_succ, i64_w, i32_w]
                  rfl
                refine done_ (done_of HT_.out (by kernel_rfl)) ?_
                try go_wp2
                have n0_ := Aside0.mk (blk_drew BK290.out)
                have n1_ := Aside0.mk (blk_drew BK291.out)
                have n2_ := Aside0.mk (blk_drew BK299.out)
                have n3_ := Aside0.mk (blk_drew BK304.out)
                have n4_ := Aside0.mk (below_drew1 HB.out)
                clear BK290
                clear BK291
                clear BK299
                clear BK304
                clear HB
                have BK290 := n0_
                have BK291 := n1_
                have BK299 := n2_
                have BK304 := n3_
                have HB := n4_
                clear n0_ n1_ n2_ n3_ n4_
                refine start_ (n := 12) (S := fun w' => w'.cell? ⟨gb290, 0, none⟩ = some (.int .i64 a0_0) ∧ w'.cell? ⟨gb290, 1, none⟩ = some (.string a0_1) ∧ w'.cell? ⟨gb290, 2, none⟩ = some (.int .i64 a0_2) ∧ w'.cell? ⟨gb290, 3, none⟩ = some (.int .i64 a0_3) ∧ w'.cell? ⟨gb290, 4, none⟩ = some (.int .i64 a0_4) ∧ w'.cell? ⟨gb290, 5, none⟩ = some (.int .i64 a0_5) ∧ w'.cell? ⟨gb291, 0, none⟩ = some (.int .i64 a1_0) ∧ w'.cell? ⟨gb291, 1, none⟩ = some (.string a1_1) ∧ w'.cell? ⟨gb291, 2, none⟩ = some (.int .i64 a1_2) ∧ w'.cell? ⟨gb291, 3, none⟩ = some (.int .i64 a1_3) ∧ w'.cell? ⟨gb291, 4, none⟩ = some (.int .i64 a1_4) ∧ w'.cell? ⟨gb291, 5, none⟩ = some (.int .i64 a1_5)) (ds := []) #[false, false, false, false, false, false, false, false, false, false, false, false] (by kernel_rfl) rfl rfl ⟨(blk_cell BK290.out 0).trans rfl, (blk_cell BK290.out 1).trans rfl, (blk_cell BK290.out 2).trans rfl, (blk_cell BK290.out 3).trans rfl, (blk_cell BK290.out 4).trans rfl, (blk_cell BK290.out 5).trans rfl, (blk_cell BK291.out 0).trans rfl, (blk_cell BK291.out 1).trans rfl, (blk_cell BK291.out 2).trans rfl, (blk_cell BK291.out 3).trans rfl, (blk_cell BK291.out 4).trans rfl, (blk_cell BK291.out 5).trans rfl⟩ (fun hHeld => ?_); refine with_tabW ontimelaw45_PfairDeadlines.tab10 ontimelaw45_PfairDeadlines.bits10 (fun HT_ HW_ => ?_)
                generalize w43.drew = w44 at BK290 BK291 BK299 BK304 HB hHeld ⊢
                refine pure_ (i := 0) (N := some 55) (v := ?_) (a' := ?_) #[true, false, false, false, false, false, false, false, false, false, false, false] rfl rfl (any_of HT_.out (by kernel_rfl)) (fun _ _ _ h => h) (Or.inl ⟨by rfl, ?_⟩) ?_ ?_
                rotate_left
                · intro w'
                  go_simp
                  with_reducible rfl
                rotate_left
                · simp only [Act.put, List.setIfInBounds_toArray, List.set_cons_zero, List.set_cons_succ, i64_w, i32_w]
                  rfl
                refine pure_ (i := 2) (N := some 57) (v := ?_) (a' := ?_) #[true, false, true, false, false, false, false, false, false, false, false, false] rfl rfl (any_of HT_.out (by kernel_rfl)) (fun _ _ _ h => h) (Or.inl ⟨by rfl, ?_⟩) ?_ ?_
                rotate_left
                · intro w'
                  go_simp
                  with_reducible rfl
                rotate_left
                · simp only [Act.put, List.setIfInBounds_toArray, List.set_cons_zero, List.set_cons_succ, i64_w, i32_w]
                  rfl
                refine pure_ (i := 5) (N := some 60) (v := ?_) (a' := ?_) #[true, false, true, false, false, true, false, false, false, false, false, false] rfl rfl (any_of HT_.out (by kernel_rfl)) (fun _ _ _ h => h) (Or.inl ⟨by rfl, ?_⟩) ?_ ?_
                rotate_left
                · intro w'
                  go_simp
                  with_reducible rfl
                rotate_left
                · simp only [Act.put, List.setIfInBounds_toArray, List.set_cons_zero, List.set_cons_succ, i64_w, i32_w]
                  rfl
                refine pure_ (i := 7) (N := some 62) (v := ?_) (a' := ?_) #[true, false, true, false, false, true, false, true, false, false, false, false] rfl rfl (any_of HT_.out (by kernel_rfl)) (fun _ _ _ h => h) (Or.inl ⟨by rfl, ?_⟩) ?_ ?_
                rotate_left
                · intro w'
                  go_simp
                  with_reducible rfl
                rotate_left
                · simp only [Act.put, List.setIfInBounds_toArray, List.set_cons_zero, List.set_cons_succ, i64_w, i32_w]
                  rfl
                refine take_ (i := 1) (N := some 56) (v := ?_) (a' := ?_) #[true, true, true, false, false, true, false, true, false, false, false, false] rfl rfl (take_ofW HT_.out HW_.out (by kernel_rfl)) (fun _ _ _ h => h) (Or.inl ⟨by rfl, ?_⟩) hHeld ?_ ?_
                rotate_left
                · rintro w' ⟨s0, s1, s2, s3, s4, s5, s6, s7, s8, s9, s10, s11⟩
                  go_simp
                  with_reducible rfl
                rotate_left
                · simp only [Act.put, List.setIfInBounds_toArray, List.set_cons_zero, List.set_cons_succ, i64_w, i32_w]
                  rfl
                refine take_ (i := 3) (N := some 58) (v := ?_) (a' := ?_) #[true, true, true, true, false, true, false, true, false, false, false, false] rfl rfl (take_ofW HT_.out HW_.out (by kernel_rfl)) (fun _ _ _ h => h) (Or.inl ⟨by rfl, ?_⟩) hHeld ?_ ?_
                rotate_left
                · rintro w' ⟨s0, s1, s2, s3, s4, s5, s6, s7, s8, s9, s10, s11⟩
                  go_simp
                  with_reducible rfl
                rotate_left
                · simp only [Act.put, List.setIfInBounds_toArray, List.set_cons_zero, List.set_cons_succ, i64_w, i32_w]
                  rfl
                refine take_ (i := 6) (N := some 61) (v := ?_) (a' := ?_) #[true, true, true, true, false, true, true, true, false, false, false, false] rfl rfl (take_ofW HT_.out HW_.out (by kernel_rfl)) (fun _ _ _ h => h) (Or.inl ⟨by rfl, ?_⟩) hHeld ?_ ?_
                rotate_left
                · rintro w' ⟨s0, s1, s2, s3, s4, s5, s6, s7, s8, s9, s10, s11⟩
                  go_simp
                  with_reducible rfl
                rotate_left
                · simp only [Act.put, List.setIfInBounds_toArray, List.set_cons_zero, List.set_cons_succ, i64_w, i32_w]
                  rfl
                refine take_ (i := 8) (N := some 63) (v := ?_) (a' := ?_) #[true, true, true, true, false, true, true, true, true, false, false, false] rfl rfl (take_ofW HT_.out HW_.out (by kernel_rfl)) (fun _ _ _ h => h) (Or.inl ⟨by rfl, ?_⟩) hHeld ?_ ?_
                rotate_left
                · rintro w' ⟨s0, s1, s2, s3, s4, s5, s6, s7, s8, s9, s10, s11⟩
                  go_simp
                  with_reducible rfl
                rotate_left
                · simp only [Act.put, List.setIfInBounds_toArray, List.set_cons_zero, List.set_cons_succ, i64_w, i32_w]
                  rfl
                refine one_ (i := 4) (N := some 59) #[true, true, true, true, true, true, true, true, true, false, false, false] rfl rfl (one_of HT_.out (by kernel_rfl)) (by decide) (fun K hK => ?_)
                refine goes_ Try.func16 (by kernel_rfl) rfl #[.agg #[.string a0_1, .int .i64 a0_2, .int .i64 a0_3], .int .i64 a0_5] (by rfl) rfl rfl (by (try simp only [List.map_toArray, List.map_cons, List.map_nil]); first | done | rfl | (simp only [List.length_drop, List.length_take]; rfl)) ?_
                with_reducible refine (pfair_Overlaps.calls kj22 a0_1 a0_2 a0_3 a0_5 t305 _ A40.out).mono ?_
                rintro e w45 ⟨rfl, hb⟩
                refine ⟨_, rfl, ?_⟩
                have n0_ := Aside0.mk (blk_below (g := gb290) (o := .cells #[.int .i64 a0_0, .string a0_1, .int .i64 a0_2, .int .i64 a0_3, .int .i64 a0_4, .int .i64 a0_5] 42 (0, 0)) (by (with_reducible repeat (first | refine blk_drewN ?_ _ | refine blk_drew ?_ | refine blk_alloc ?_ _)); exact BK290.out) hb)
                have n1_ := Aside0.mk (blk_below (g := gb291) (o := .cells #[.int .i64 a1_0, .string a1_1, .int .i64 a1_2, .int .i64 a1_3, .int .i64 a1_4, .int .i64 a1_5] 42 (0, 0)) (by (with_reducible repeat (first | refine blk_drewN ?_ _ | refine blk_drew ?_ | refine blk_alloc ?_ _)); exact BK291.out) hb)
                have n2_ := Aside0.mk (blk_below (g := gb299) (o := .cells #[.int .i64 t295, .int .i64 t296, .int .i64 t297] 26 (0, 0)) (by (with_reducible repeat (first | refine blk_drewN ?_ _ | refine blk_drew ?_ | refine blk_alloc ?_ _)); exact BK299.out) hb)
                have n3_ := Aside0.mk (blk_below (g := gb304) (o := .cells #[.int .i64 t300, .int .i64 t301, .int .i64 t302] 26 (0, 0)) (by (with_reducible repeat (first | refine blk_drewN ?_ _ | refine blk_drew ?_ | refine blk_alloc ?_ _)); exact BK304.out) hb)
                have n4_ := Aside0.mk (below_step (by repeat (first | (with_reducible first | exact HB.out | apply below_alloc | apply pw_below_drewN | apply below_drew1 | refine below_set ?_ GE290.out | refine below_set ?_ GE291.out | refine below_set ?_ GE299.out | refine below_set ?_ GE304.out) | exact HB.out)) hb)
                clear BK290
                clear BK291
                clear BK299
                clear BK304
                clear HB
                have BK290 := n0_
                have BK291 := n1_
                have BK299 := n2_
                have BK304 := n3_
                have HB := n4_
                clear n0_ n1_ n2_ n3_ n4_
                (try clear hb)
                (try clear hb2)
                (try clear hk)
                (try clear hi)
                refine hK.out _ _ ⟨(blk_cell BK290.out 0).trans rfl, (blk_cell BK290.out 1).trans rfl, (blk_cell BK290.out 2).trans rfl, (blk_cell BK290.out 3).trans rfl, (blk_cell BK290.out 4).trans rfl, (blk_cell BK290.out 5).trans rfl, (blk_cell BK291.out 0).trans rfl, (blk_cell BK291.out 1).trans rfl, (blk_cell BK291.out 2).trans rfl, (blk_cell BK291.out 3).trans rfl, (blk_cell BK291.out 4).trans rfl, (blk_cell BK291.out 5).trans rfl⟩ (fun hHeld => ?_)
                clear hK K
                refine norm_ (a' := ?_) ?_ ?_
                rotate_left
                · show Act.put _ (some 59) _ = _
                  simp only [Act.put, List.setIfInBounds_toArray, List.set_cons_zero, List.set_cons_succ, i64_w, i32_w]
                  rfl
                refine one_ (i := 9) (N := some 64) #[true, true, true, true, true, true, true, true, true, true, false, false] rfl rfl (one_of HT_.out (by kernel_rfl)) (by decide) (fun K hK => ?_)
                refine goes_ Try.func16 (by kernel_rfl) rfl #[.agg #[.string a1_1, .int .i64 a1_2, .int .i64 a1_3], .int .i64 a1_5] (by rfl) rfl rfl (by (try simp only [List.map_toArray, List.map_cons, List.map_nil]); first | done | rfl | (simp only [List.length_drop, List.length_take]; rfl)) ?_
                with_reducible refine (pfair_Overlaps.calls kj22 a1_1 a1_2 a1_3 a1_5 t306 _ A41.out).mono ?_
                rintro e w46 ⟨rfl, hb⟩
                refine ⟨_, rfl, ?_⟩
                have n0_ := Aside0.mk (blk_below (g := gb290) (o := .cells #[.int .i64 a0_0, .string a0_1, .int .i64 a0_2, .int .i64 a0_3, .int .i64 a0_4, .int .i64 a0_5] 42 (0, 0)) (by (with_reducible repeat (first | refine blk_drewN ?_ _ | refine blk_drew ?_ | refine blk_alloc ?_ _)); exact BK290.out) hb)
                have n1_ := Aside0.mk (blk_below (g := gb291) (o := .cells #[.int .i64 a1_0, .string a1_1, .int .i64 a1_2, .int .i64 a1_3, .int .i64 a1_4, .int .i64 a1_5] 42 (0, 0)) (by (with_reducible repeat (first | refine blk_drewN ?_ _ | refine blk_drew ?_ | refine blk_alloc ?_ _)); exact BK291.out) hb)
                have n2_ := Aside0.mk (blk_below (g := gb299) (o := .cells #[.int .i64 t295, .int .i64 t296, .int .i64 t297] 26 (0, 0)) (by (with_reducible repeat (first | refine blk_drewN ?_ _ | refine blk_drew ?_ | refine blk_alloc ?_ _)); exact BK299.out) hb)
                have n3_ := Aside0.mk (blk_below (g := gb304) (o := .cells #[.int .i64 t300, .int .i64 t301, .int .i64 t302] 26 (0, 0)) (by (with_reducible repeat (first | refine blk_drewN ?_ _ | refine blk_drew ?_ | refine blk_alloc ?_ _)); exact BK304.out) hb)
                have n4_ := Aside0.mk (below_step (by repeat (first | (with_reducible first | exact HB.out | apply below_alloc | apply pw_below_drewN | apply below_drew1 | refine below_set ?_ GE290.out | refine below_set ?_ GE291.out | refine below_set ?_ GE299.out | refine below_set ?_ GE304.out) | exact HB.out)) hb)
                clear BK290
                clear BK291
                clear BK299
                clear BK304
                clear HB
                have BK290 := n0_
                have BK291 := n1_
                have BK299 := n2_
                have BK304 := n3_
                have HB := n4_
                clear n0_ n1_ n2_ n3_ n4_
                (try clear hb)
                (try clear hb2)
                (try clear hk)
                (try clear hi)
                refine hK.out _ _ ⟨(blk_cell BK290.out 0).trans rfl, (blk_cell BK290.out 1).trans rfl, (blk_cell BK290.out 2).trans rfl, (blk_cell BK290.out 3).trans rfl, (blk_cell BK290.out 4).trans rfl, (blk_cell BK290.out 5).trans rfl, (blk_cell BK291.out 0).trans rfl, (blk_cell BK291.out 1).trans rfl, (blk_cell BK291.out 2).trans rfl, (blk_cell BK291.out 3).trans rfl, (blk_cell BK291.out 4).trans rfl, (blk_cell BK291.out 5).trans rfl⟩ (fun hHeld => ?_)
                clear hK K
                refine norm_ (a' := ?_) ?_ ?_
                rotate_left
                · show Act.put _ (some 64) _ = _
                  simp only [Act.put, List.setIfInBounds_toArray, List.set_cons_zero, List.set_cons_succ, i64_w, i32_w]
                  rfl
                refine pure_ (i := 10) (N := some 11) (v := ?_) (a' := ?_) #[true, true, true, true, true, true, true, true, true, true, true, false] rfl rfl (any_of HT_.out (by kernel_rfl)) (fun _ _ _ h => h) (Or.inl ⟨by rfl, ?_⟩) ?_ ?_
                rotate_left
                · intro w'
                  go_simp
                  with_reducible rfl
                rotate_left
                · simp only [Act.put, List.setIfInBounds_toArray, List.set_cons_zero, List.set_cons_succ, i64_w, i32_w]
                  rfl
                refine pure_ (i := 11) (N := some 12) (v := ?_) (a' := ?_) #[true, true, true, true, true, true, true, true, true, true, true, true] rfl rfl (any_of HT_.out (by kernel_rfl)) (fun _ _ _ h => h) (Or.inl ⟨by rfl, ?_⟩) ?_ ?_
                rotate_left
                · intro w'
                  go_simp
                  with_reducible rfl
                rotate_left
                · simp only [Act.put, List.setIfInBounds_toArray, List.set_cons_zero, List.set_cons_succ, i64_w, i32_w]
                  rfl
                refine done_ (done_of HT_.out (by kernel_rfl)) ?_
                go_upto_region 11 with (fail)
                go_cut [79] (fun v79 wc => ∃ (kq : Nat) (x79_41 : Bool), v79 = .bool x79_41 ∧ Aside0 (ontimelaw45_PfairDeadlines.j2 kq x79_41 a0_0 a0_1 a0_2 a0_3 a0_4 a0_5 a1_0 a1_1 a1_2 a1_3 a1_4 a1_5 = some r) ∧ Aside0 (kq ≤ kj22) ∧ Aside0 (wc.heap[gb290]? = some (.cells #[.int .i64 a0_0, .string a0_1, .int .i64 a0_2, .int .i64 a0_3, .int .i64 a0_4, .int .i64 a0_5] 42 (0, 0))) ∧ Aside0 (wc.heap[gb291]? = some (.cells #[.int .i64 a1_0, .string a1_1, .int .i64 a1_2, .int .i64 a1_3, .int .i64 a1_4, .int .i64 a1_5] 42 (0, 0))) ∧ Aside0 (wc.heap[gb299]? = some (.cells #[.int .i64 t295, .int .i64 t296, .int .i64 t297] 26 (0, 0))) ∧ Aside0 (wc.heap[gb304]? = some (.cells #[.int .i64 t300, .int .i64 t301, .int .i64 t302] 26 (0, 0))) ∧ Aside0 (Below w.heap.size w wc))
                case first =>
                  have H := HC42.out
                  clear HC42
                  by_cases c47 : (wrap64 (a0_4 + t297)) < (wrap64 (a1_4 + t302))
                  · rw [if_pos c47] at H
                    have c47b0 : decide ((wrap64 (a0_4 + t297)) < (wrap64 (a1_4 + t302))) = true := decide_eq_true c47
                    clear c47
                    (first | rw [c47b0] | (simp only [i64_w, i32_w]; rw [c47b0]) | skip)
                    have H' := Aside0.mk H
                    clear H
                    go_wp2
                    go_meet
                    case rel => exact ⟨_, (true), (by first | rfl | (simp; done) | (simp [*]; done)), H', ⟨by have := HJ4.out; have := HJ22.out; first | omega | exact Nat.le_refl _⟩, ⟨by (with_reducible repeat (first | refine blk_drewN ?_ _ | refine blk_drew ?_ | refine blk_alloc ?_ _)); exact BK290.out⟩, ⟨by (with_reducible repeat (first | refine blk_drewN ?_ _ | refine blk_drew ?_ | refine blk_alloc ?_ _)); exact BK291.out⟩, ⟨by (with_reducible repeat (first | refine blk_drewN ?_ _ | refine blk_drew ?_ | refine blk_alloc ?_ _)); exact BK299.out⟩, ⟨by (with_reducible repeat (first | refine blk_drewN ?_ _ | refine blk_drew ?_ | refine blk_alloc ?_ _)); exact BK304.out⟩, ⟨by repeat (first | (with_reducible first | exact HB.out | apply below_alloc | apply pw_below_drewN | apply below_drew1 | refine below_set ?_ GE290.out | refine below_set ?_ GE291.out | refine below_set ?_ GE299.out | refine below_set ?_ GE304.out) | exact HB.out)⟩⟩
                  · rw [if_neg c47] at H
                    have c47b0 : decide ((wrap64 (a0_4 + t297)) < (wrap64 (a1_4 + t302))) = false := decide_eq_false c47
                    clear c47
                    (first | rw [c47b0] | (simp only [i64_w, i32_w]; rw [c47b0]) | skip)
                    by_cases c48 : (wrap64 (a0_4 + t297)) = (wrap64 (a1_4 + t302))
                    · rw [if_pos c48] at H
                      have c48b0 : ((wrap64 (a0_4 + t297)) == (wrap64 (a1_4 + t302))) = true := beq_iff_eq.mpr c48
                      have c48b1 : ((wrap64 (a0_4 + t297)) != (wrap64 (a1_4 + t302))) = false := bne_eq_false_iff_eq.mpr c48
                      clear c48
                      by_cases c49 : t305 = true
                      · subst c49
                        have H1 : (ontimelaw45_PfairDeadlines.j2 kj22 (!t306) a0_0 a0_1 a0_2 a0_3 a0_4 a0_5 a1_0 a1_1 a1_2 a1_3 a1_4 a1_5) = some r := by rw [if_pos rfl] at H; exact H
                        clear H
                        have H := H1
                        clear H1
                        have H' := Aside0.mk H
                        clear H
                        go_wp2
                        go_meet
                        case rel => exact ⟨_, (!t306), (by first | rfl | (simp; done) | (simp [*]; done)), H', ⟨by have := HJ4.out; have := HJ22.out; first | omega | exact Nat.le_refl _⟩, ⟨by (with_reducible repeat (first | refine blk_drewN ?_ _ | refine blk_drew ?_ | refine blk_alloc ?_ _)); exact BK290.out⟩, ⟨by (with_reducible repeat (first | refine blk_drewN ?_ _ | refine blk_drew ?_ | refine blk_alloc ?_ _)); exact BK291.out⟩, ⟨by (with_reducible repeat (first | refine blk_drewN ?_ _ | refine blk_drew ?_ | refine blk_alloc ?_ _)); exact BK299.out⟩, ⟨by (with_reducible repeat (first | refine blk_drewN ?_ _ | refine blk_drew ?_ | refine blk_alloc ?_ _)); exact BK304.out⟩, ⟨by repeat (first | (with_reducible first | exact HB.out | apply below_alloc | apply pw_below_drewN | apply below_drew1 | refine below_set ?_ GE290.out | refine below_set ?_ GE291.out | refine below_set ?_ GE299.out | refine below_set ?_ GE304.out) | exact HB.out)⟩⟩
                      · replace c49 := Bool.eq_false_iff.mpr c49
                        subst c49
                        have H1 : (ontimelaw45_PfairDeadlines.j2 kj22 false a0_0 a0_1 a0_2 a0_3 a0_4 a0_5 a1_0 a1_1 a1_2 a1_3 a1_4 a1_5) = some r := by rw [if_neg (show ¬ (false = true) by decide)] at H; exact H
                        clear H
                        have H := H1
                        clear H1
                        have H' := Aside0.mk H
                        clear H
                        go_wp2
                        go_meet
                        case rel => exact ⟨_, (false), (by first | rfl | (simp; done) | (simp [*]; done)), H', ⟨by have := HJ4.out; have := HJ22.out; first | omega | exact Nat.le_refl _⟩, ⟨by (with_reducible repeat (first | refine blk_drewN ?_ _ | refine blk_drew ?_ | refine blk_alloc ?_ _)); exact BK290.out⟩, ⟨by (with_reducible repeat (first | refine blk_drewN ?_ _ | refine blk_drew ?_ | refine blk_alloc ?_ _)); exact BK291.out⟩, ⟨by (with_reducible repeat (first | refine blk_drewN ?_ _ | refine blk_drew ?_ | refine blk_alloc ?_ _)); exact BK299.out⟩, ⟨by (with_reducible repeat (first | refine blk_drewN ?_ _ | refine blk_drew ?_ | refine blk_alloc ?_ _)); exact BK304.out⟩, ⟨by repeat (first | (with_reducible first | exact HB.out | apply below_alloc | apply pw_below_drewN | apply below_drew1 | refine below_set ?_ GE290.out | refine below_set ?_ GE291.out | refine below_set ?_ GE299.out | refine below_set ?_ GE304.out) | exact HB.out)⟩⟩
                    · rw [if_neg c48] at H
                      have c48b0 : ((wrap64 (a0_4 + t297)) == (wrap64 (a1_4 + t302))) = false := beq_eq_false_iff_ne.mpr c48
                      have c48b1 : ((wrap64 (a0_4 + t297)) != (wrap64 (a1_4 + t302))) = true := bne_iff_ne.mpr c48
                      have H' := Aside0.mk H
                      clear H
                      go_wp2
                      go_meet
                      case rel => exact ⟨_, (false), (by first | rfl | (simp; done) | (simp [*]; done)), H', ⟨by have := HJ4.out; have := HJ22.out; first | omega | exact Nat.le_refl _⟩, ⟨by (with_reducible repeat (first | refine blk_drewN ?_ _ | refine blk_drew ?_ | refine blk_alloc ?_ _)); exact BK290.out⟩, ⟨by (with_reducible repeat (first | refine blk_drewN ?_ _ | refine blk_drew ?_ | refine blk_alloc ?_ _)); exact BK291.out⟩, ⟨by (with_reducible repeat (first | refine blk_drewN ?_ _ | refine blk_drew ?_ | refine blk_alloc ?_ _)); exact BK299.out⟩, ⟨by (with_reducible repeat (first | refine blk_drewN ?_ _ | refine blk_drew ?_ | refine blk_alloc ?_ _)); exact BK304.out⟩, ⟨by repeat (first | (with_reducible first | exact HB.out | apply below_alloc | apply pw_below_drewN | apply below_drew1 | refine below_set ?_ GE290.out | refine below_set ?_ GE291.out | refine below_set ?_ GE299.out | refine below_set ?_ GE304.out) | exact HB.out)⟩⟩
                case rest =>
                  clear HC42
                  try clear c1
                  try clear c2
                  try clear p2
                  try clear c3
                  try clear c4
                  try clear p6
                  try clear c10
                  try clear c10b0
                  try clear c10b1
                  try clear c11
                  try clear c12
                  try clear c15
                  try clear c16
                  try clear c20
                  try clear c23
                  try clear c24
                  try clear c28
                  try clear c29
                  try clear c34
                  try clear c35
                  try clear c36
                  try clear c38
                  try clear c38b0
                  try clear c38b1
                  try clear c39
                  try clear c47
                  try clear c47b0
                  try clear c48
                  try clear c48b0
                  try clear c48b1
                  try clear c49
                  try clear hcz12_0
                  try clear hcz12_1
                  try clear hcz12_2
                  try clear hcz12_3
                  try clear hcz12_4
                  try clear hcz12_5
                  try clear hcz16_0
                  try clear hcz16_1
                  try clear hcz16_2
                  try clear hcz16_3
                  try clear hcz16_4
                  try clear hcz16_5
                  try clear hcz18_0
                  try clear hcz18_1
                  try clear hcz18_2
                  try clear hcz18_3
                  try clear hcz18_4
                  try clear hcz18_5
                  try clear hcz25_0
                  try clear hcz25_1
                  try clear hcz25_2
                  try clear hcz25_3
                  try clear hcz25_4
                  try clear hcz25_5
                  try clear hcz30_0
                  try clear hcz30_1
                  try clear hcz30_2
                  try clear hcz31_0
                  try clear hcz31_1
                  try clear hcz31_2
                  try clear hcz31_3
                  try clear hcz31_4
                  try clear hcz31_5
                  try clear hcz37_0
                  try clear hcz37_1
                  try clear hcz37_2
                  try clear hfz12_0
                  try clear hfz12_1
                  try clear hfz12_2
                  try clear hfz12_3
                  try clear hfz12_4
                  try clear hfz12_5
                  try clear hfz16_0
                  try clear hfz16_1
                  try clear hfz16_2
                  try clear hfz16_3
                  try clear hfz16_4
                  try clear hfz16_5
                  try clear hfz18_0
                  try clear hfz18_1
                  try clear hfz18_2
                  try clear hfz18_3
                  try clear hfz18_4
                  try clear hfz18_5
                  try clear hfz25_0
                  try clear hfz25_1
                  try clear hfz25_2
                  try clear hfz25_3
                  try clear hfz25_4
                  try clear hfz25_5
                  try clear hfz30_0
                  try clear hfz30_1
                  try clear hfz30_2
                  try clear hfz31_0
                  try clear hfz31_1
                  try clear hfz31_2
                  try clear hfz31_3
                  try clear hfz31_4
                  try clear hfz31_5
                  try clear hfz37_0
                  try clear hfz37_1
                  try clear hfz37_2
                  try clear p2
                  obtain ⟨kq, x79_41, rfl, HA, HJ41, BK290, BK291, BK299, BK304, HB⟩ := hcut
                  cases kq with
                  | zero => exact absurd HA.out (by simp [ontimelaw45_PfairDeadlines.j2])
                  | succ kj41 =>
                    have H := HA.out
                    clear HA
                    simp only [ontimelaw45_PfairDeadlines.j2] at H
                    by_cases c50 : x79_41 = true
                    · subst c50
                      have H1 : ((pfair_Before.f kj41 a0_0 a0_1 a0_2 a0_3 a0_4 a0_5 a1_0 a1_1 a1_2 a1_3 a1_4 a1_5).bind fun t307 => (if t307 = true then ((pfair_Before.f kj41 a1_0 a1_1 a1_2 a1_3 a1_4 a1_5 a0_0 a0_1 a0_2 a0_3 a0_4 a0_5).bind fun t308 => (some (!t308))) else (some false))) = some r := by rw [if_pos rfl] at H; exact H
                      clear H
                      have H := H1
                      clear H1
                      replace H := Option.bind_eq_some_iff.mp H
                      obtain ⟨t307, A510, H⟩ := H
                      replace H : (if t307 = true then ((pfair_Before.f kj41 a1_0 a1_1 a1_2 a1_3 a1_4 a1_5 a0_0 a0_1 a0_2 a0_3 a0_4 a0_5).bind fun t308 => (some (!t308))) else (some false)) = some r := H
                      have A51 := Aside0.mk A510
                      clear A510
                      by_cases c52 : t307 = true
                      · subst c52
                        have H1 : ((pfair_Before.f kj41 a1_0 a1_1 a1_2 a1_3 a1_4 a1_5 a0_0 a0_1 a0_2 a0_3 a0_4 a0_5).bind fun t308 => (some (!t308))) = some r := by rw [if_pos rfl] at H; exact H
                        clear H
                        have H := H1
                        clear H1
                        replace H := Option.bind_eq_some_iff.mp H
                        obtain ⟨t308, A530, H⟩ := H
                        replace H : (some (!t308)) = some r := H
                        have A53 := Aside0.mk A530
                        clear A530
                        obtain rfl := Option.some.inj H
                        have hnb54 := NB290_291.out
                        have hnc54 := NB291_290.out
                        have hnb55 := NB290_299.out
                        have hnc55 := NB299_290.out
                        have hnb56 := NB290_304.out
                        have hnc56 := NB304_290.out
                        have hcz57_0 : wc.cell? ⟨gb290, 0, none⟩ = some (.int .i64 a0_0) := (blk_cell BK290.out 0).trans rfl
                        have hcz57_1 : wc.cell? ⟨gb290, 1, none⟩ = some (.string a0_1) := (blk_cell BK290.out 1).trans rfl
                        have hcz57_2 : wc.cell? ⟨gb290, 2, none⟩ = some (.int .i64 a0_2) := (blk_cell BK290.out 2).trans rfl
                        have hcz57_3 : wc.cell? ⟨gb290, 3, none⟩ = some (.int .i64 a0_3) := (blk_cell BK290.out 3).trans rfl
                        have hcz57_4 : wc.cell? ⟨gb290, 4, none⟩ = some (.int .i64 a0_4) := (blk_cell BK290.out 4).trans rfl
                        have hcz57_5 : wc.cell? ⟨gb290, 5, none⟩ = some (.int .i64 a0_5) := (blk_cell BK290.out 5).trans rfl
                        have hfz57_0 := blk_frozen BK290.out 0
                        have hfz57_1 := blk_frozen BK290.out 1
                        have hfz57_2 := blk_frozen BK290.out 2
                        have hfz57_3 := blk_frozen BK290.out 3
                        have hfz57_4 := blk_frozen BK290.out 4
                        have hfz57_5 := blk_frozen BK290.out 5
                        have hnb58 := NB291_299.out
                        have hnc58 := NB299_291.out
                        have hnb59 := NB291_304.out
                        have hnc59 := NB304_291.out
                        have hcz60_0 : wc.cell? ⟨gb291, 0, none⟩ = some (.int .i64 a1_0) := (blk_cell BK291.out 0).trans rfl
                        have hcz60_1 : wc.cell? ⟨gb291, 1, none⟩ = some (.string a1_1) := (blk_cell BK291.out 1).trans rfl
                        have hcz60_2 : wc.cell? ⟨gb291, 2, none⟩ = some (.int .i64 a1_2) := (blk_cell BK291.out 2).trans rfl
                        have hcz60_3 : wc.cell? ⟨gb291, 3, none⟩ = some (.int .i64 a1_3) := (blk_cell BK291.out 3).trans rfl
                        have hcz60_4 : wc.cell? ⟨gb291, 4, none⟩ = some (.int .i64 a1_4) := (blk_cell BK291.out 4).trans rfl
                        have hcz60_5 : wc.cell? ⟨gb291, 5, none⟩ = some (.int .i64 a1_5) := (blk_cell BK291.out 5).trans rfl
                        have hfz60_0 := blk_frozen BK291.out 0
                        have hfz60_1 := blk_frozen BK291.out 1
                        have hfz60_2 := blk_frozen BK291.out 2
                        have hfz60_3 := blk_frozen BK291.out 3
                        have hfz60_4 := blk_frozen BK291.out 4
                        have hfz60_5 := blk_frozen BK291.out 5
                        go_wp2_with (first | ((with_reducible refine gate_callee (f := 22) rfl ?_); refine goesL_ (some 82) rfl rfl Try.func22 (by kernel_rfl) rfl #[.agg #[.int .i64 a0_0, .string a0_1, .int .i64 a0_2, .int .i64 a0_3, .int .i64 a0_4, .int .i64 a0_5], .agg #[.int .i64 a1_0, .string a1_1, .int .i64 a1_2, .int .i64 a1_3, .int .i64 a1_4, .int .i64 a1_5]] rfl (by (try simp only [List.map_toArray, List.map_cons, List.map_nil]); first | done | rfl | (simp only [List.length_drop, List.length_take]; rfl)) ?_; (with_reducible refine (pfair_Before.calls kj41 a0_0 a0_1 a0_2 a0_3 a0_4 a0_5 a1_0 a1_1 a1_2 a1_3 a1_4 a1_5 true _ A51.out).mono ?_); rintro e w61 ⟨rfl, hb⟩; refine ⟨_, rfl, ?_⟩; have n0_ := Aside0.mk (blk_below (g := gb290) (o := .cells #[.int .i64 a0_0, .string a0_1, .int .i64 a0_2, .int .i64 a0_3, .int .i64 a0_4, .int .i64 a0_5] 42 (0, 0)) (by (with_reducible repeat (first | refine blk_drewN ?_ _ | refine blk_drew ?_ | refine blk_alloc ?_ _)); exact BK290.out) hb); have n1_ := Aside0.mk (blk_below (g := gb291) (o := .cells #[.int .i64 a1_0, .string a1_1, .int .i64 a1_2, .int .i64 a1_3, .int .i64 a1_4, .int .i64 a1_5] 42 (0, 0)) (by (with_reducible repeat (first | refine blk_drewN ?_ _ | refine blk_drew ?_ | refine blk_alloc ?_ _)); exact BK291.out) hb); have n2_ := Aside0.mk (blk_below (g := gb299) (o := .cells #[.int .i64 t295, .int .i64 t296, .int .i64 t297] 26 (0, 0)) (by (with_reducible repeat (first | refine blk_drewN ?_ _ | refine blk_drew ?_ | refine blk_alloc ?_ _)); exact BK299.out) hb); have n3_ := Aside0.mk (blk_below (g := gb304) (o := .cells #[.int .i64 t300, .int .i64 t301, .int .i64 t302] 26 (0, 0)) (by (with_reducible repeat (first | refine blk_drewN ?_ _ | refine blk_drew ?_ | refine blk_alloc ?_ _)); exact BK304.out) hb); have n4_ := Aside0.mk (below_step (by repeat (first | (with_reducible first | exact HB.out | apply below_alloc | apply pw_below_drewN | apply below_drew1 | refine below_set ?_ GE290.out | refine below_set ?_ GE291.out | refine below_set ?_ GE299.out | refine below_set ?_ GE304.out) | exact HB.out)) hb); clear BK290; clear BK291; clear BK299; clear BK304; clear HB; have BK290 := n0_; have BK291 := n1_; have BK299 := n2_; have BK304 := n3_; have HB := n4_; clear n0_ n1_ n2_ n3_ n4_; (try clear hb); (try clear hb2); (try clear hk); (try clear hi); have hcz62_0 : w61.cell? ⟨gb291, 0, none⟩ = some (.int .i64 a1_0) := (blk_cell BK291.out 0).trans rfl; have hcz62_1 : w61.cell? ⟨gb291, 1, none⟩ = some (.string a1_1) := (blk_cell BK291.out 1).trans rfl; have hcz62_2 : w61.cell? ⟨gb291, 2, none⟩ = some (.int .i64 a1_2) := (blk_cell BK291.out 2).trans rfl; have hcz62_3 : w61.cell? ⟨gb291, 3, none⟩ = some (.int .i64 a1_3) := (blk_cell BK291.out 3).trans rfl; have hcz62_4 : w61.cell? ⟨gb291, 4, none⟩ = some (.int .i64 a1_4) := (blk_cell BK291.out 4).trans rfl; have hcz62_5 : w61.cell? ⟨gb291, 5, none⟩ = some (.int .i64 a1_5) := (blk_cell BK291.out 5).trans rfl; have hfz62_0 := blk_frozen BK291.out 0; have hfz62_1 := blk_frozen BK291.out 1; have hfz62_2 := blk_frozen BK291.out 2; have hfz62_3 := blk_frozen BK291.out 3; have hfz62_4 := blk_frozen BK291.out 4; have hfz62_5 := blk_frozen BK291.out 5; have hcz63_0 : w61.cell? ⟨gb290, 0, none⟩ = some (.int .i64 a0_0) := (blk_cell BK290.out 0).trans rfl; have hcz63_1 : w61.cell? ⟨gb290, 1, none⟩ = some (.string a0_1) := (blk_cell BK290.out 1).trans rfl; have hcz63_2 : w61.cell? ⟨gb290, 2, none⟩ = some (.int .i64 a0_2) := (blk_cell BK290.out 2).trans rfl; have hcz63_3 : w61.cell? ⟨gb290, 3, none⟩ = some (.int .i64 a0_3) := (blk_cell BK290.out 3).trans rfl; have hcz63_4 : w61.cell? ⟨gb290, 4, none⟩ = some (.int .i64 a0_4) := (blk_cell BK290.out 4).trans rfl; have hcz63_5 : w61.cell? ⟨gb290, 5, none⟩ = some (.int .i64 a0_5) := (blk_cell BK290.out 5).trans rfl; have hfz63_0 := blk_frozen BK290.out 0; have hfz63_1 := blk_frozen BK290.out 1; have hfz63_2 := blk_frozen BK290.out 2; have hfz63_3 := blk_frozen BK290.out 3; have hfz63_4 := blk_frozen BK290.out 4; have hfz63_5 := blk_frozen BK290.out 5) | (go_at_call 22; (with_reducible refine (pfair_Before.calls kj41 a1_0 a1_1 a1_2 a1_3 a1_4 a1_5 a0_0 a0_1 a0_2 a0_3 a0_4 a0_5 t308 _ A53.out).mono ?_); rintro e w64 ⟨rfl, hb⟩; have n0_ := Aside0.mk (blk_below (g := gb290) (o := .cells #[.int .i64 a0_0, .string a0_1, .int .i64 a0_2, .int .i64 a0_3, .int .i64 a0_4, .int .i64 a0_5] 42 (0, 0)) (by (with_reducible repeat (first | refine blk_drewN ?_ _ | refine blk_drew ?_ | refine blk_alloc ?_ _)); exact BK290.out) hb); have n1_ := Aside0.mk (blk_below (g := gb291) (o := .cells #[.int .i64 a1_0, .string a1_1, .int .i64 a1_2, .int .i64 a1_3, .int .i64 a1_4, .int .i64 a1_5] 42 (0, 0)) (by (with_reducible repeat (first | refine blk_drewN ?_ _ | refine blk_drew ?_ | refine blk_alloc ?_ _)); exact BK291.out) hb); have n2_ := Aside0.mk (blk_below (g := gb299) (o := .cells #[.int .i64 t295, .int .i64 t296, .int .i64 t297] 26 (0, 0)) (by (with_reducible repeat (first | refine blk_drewN ?_ _ | refine blk_drew ?_ | refine blk_alloc ?_ _)); exact BK299.out) hb); have n3_ := Aside0.mk (blk_below (g := gb304) (o := .cells #[.int .i64 t300, .int .i64 t301, .int .i64 t302] 26 (0, 0)) (by (with_reducible repeat (first | refine blk_drewN ?_ _ | refine blk_drew ?_ | refine blk_alloc ?_ _)); exact BK304.out) hb); have n4_ := Aside0.mk (below_step (by repeat (first | (with_reducible first | exact HB.out | apply below_alloc | apply pw_below_drewN | apply below_drew1 | refine below_set ?_ GE290.out | refine below_set ?_ GE291.out | refine below_set ?_ GE299.out | refine below_set ?_ GE304.out) | exact HB.out)) hb); clear BK290; clear BK291; clear BK299; clear BK304; clear HB; have BK290 := n0_; have BK291 := n1_; have BK299 := n2_; have BK304 := n3_; have HB := n4_; clear n0_ n1_ n2_ n3_ n4_; (try clear hb); (try clear hb2); (try clear hk); (try clear hi)))
                        go_ret
                        exact ⟨by first | rfl | (simp [errW_none, errW_some] <;> rfl) | (simp [*, errW_none, errW_some] <;> rfl), by repeat (first | (with_reducible first | exact HB.out | apply below_alloc | apply pw_below_drewN | apply below_drew1 | refine below_set ?_ GE290.out | refine below_set ?_ GE291.out | refine below_set ?_ GE299.out | refine below_set ?_ GE304.out) | exact HB.out)⟩
                      · replace c52 := Bool.eq_false_iff.mpr c52
                        subst c52
                        have H1 : (some false) = some r := by rw [if_neg (show ¬ (false = true) by decide)] at H; exact H
                        clear H
                        have H := H1
                        clear H1
                        obtain rfl := Option.some.inj H
                        have hnb65 := NB290_291.out
                        have hnc65 := NB291_290.out
                        have hnb66 := NB290_299.out
                        have hnc66 := NB299_290.out
                        have hnb67 := NB290_304.out
                        have hnc67 := NB304_290.out
                        have hcz68_0 : wc.cell? ⟨gb290, 0, none⟩ = some (.int .i64 a0_0) := (blk_cell BK290.out 0).trans rfl
                        have hcz68_1 : wc.cell? ⟨gb290, 1, none⟩ = some (.string a0_1) := (blk_cell BK290.out 1).trans rfl
                        have hcz68_2 : wc.cell? ⟨gb290, 2, none⟩ = some (.int .i64 a0_2) := (blk_cell BK290.out 2).trans rfl
                        have hcz68_3 : wc.cell? ⟨gb290, 3, none⟩ = some (.int .i64 a0_3) := (blk_cell BK290.out 3).trans rfl
                        have hcz68_4 : wc.cell? ⟨gb290, 4, none⟩ = some (.int .i64 a0_4) := (blk_cell BK290.out 4).trans rfl
                        have hcz68_5 : wc.cell? ⟨gb290, 5, none⟩ = some (.int .i64 a0_5) := (blk_cell BK290.out 5).trans rfl
                        have hfz68_0 := blk_frozen BK290.out 0
                        have hfz68_1 := blk_frozen BK290.out 1
                        have hfz68_2 := blk_frozen BK290.out 2
                        have hfz68_3 := blk_frozen BK290.out 3
                        have hfz68_4 := blk_frozen BK290.out 4
                        have hfz68_5 := blk_frozen BK290.out 5
                        have hnb69 := NB291_299.out
                        have hnc69 := NB299_291.out
                        have hnb70 := NB291_304.out
                        have hnc70 := NB304_291.out
                        have hcz71_0 : wc.cell? ⟨gb291, 0, none⟩ = some (.int .i64 a1_0) := (blk_cell BK291.out 0).trans rfl
                        have hcz71_1 : wc.cell? ⟨gb291, 1, none⟩ = some (.string a1_1) := (blk_cell BK291.out 1).trans rfl
                        have hcz71_2 : wc.cell? ⟨gb291, 2, none⟩ = some (.int .i64 a1_2) := (blk_cell BK291.out 2).trans rfl
                        have hcz71_3 : wc.cell? ⟨gb291, 3, none⟩ = some (.int .i64 a1_3) := (blk_cell BK291.out 3).trans rfl
                        have hcz71_4 : wc.cell? ⟨gb291, 4, none⟩ = some (.int .i64 a1_4) := (blk_cell BK291.out 4).trans rfl
                        have hcz71_5 : wc.cell? ⟨gb291, 5, none⟩ = some (.int .i64 a1_5) := (blk_cell BK291.out 5).trans rfl
                        have hfz71_0 := blk_frozen BK291.out 0
                        have hfz71_1 := blk_frozen BK291.out 1
                        have hfz71_2 := blk_frozen BK291.out 2
                        have hfz71_3 := blk_frozen BK291.out 3
                        have hfz71_4 := blk_frozen BK291.out 4
                        have hfz71_5 := blk_frozen BK291.out 5
                        go_wp2_with (first | ((with_reducible refine gate_callee (f := 22) rfl ?_); refine goesL_ (some 82) rfl rfl Try.func22 (by kernel_rfl) rfl #[.agg #[.int .i64 a0_0, .string a0_1, .int .i64 a0_2, .int .i64 a0_3, .int .i64 a0_4, .int .i64 a0_5], .agg #[.int .i64 a1_0, .string a1_1, .int .i64 a1_2, .int .i64 a1_3, .int .i64 a1_4, .int .i64 a1_5]] rfl (by (try simp only [List.map_toArray, List.map_cons, List.map_nil]); first | done | rfl | (simp only [List.length_drop, List.length_take]; rfl)) ?_; (with_reducible refine (pfair_Before.calls kj41 a0_0 a0_1 a0_2 a0_3 a0_4 a0_5 a1_0 a1_1 a1_2 a1_3 a1_4 a1_5 false _ A51.out).mono ?_); rintro e w72 ⟨rfl, hb⟩; refine ⟨_, rfl, ?_⟩; have n0_ := Aside0.mk (blk_below (g := gb290) (o := .cells #[.int .i64 a0_0, .string a0_1, .int .i64 a0_2, .int .i64 a0_3, .int .i64 a0_4, .int .i64 a0_5] 42 (0, 0)) (by (with_reducible repeat (first | refine blk_drewN ?_ _ | refine blk_drew ?_ | refine blk_alloc ?_ _)); exact BK290.out) hb); have n1_ := Aside0.mk (blk_below (g := gb291) (o := .cells #[.int .i64 a1_0, .string a1_1, .int .i64 a1_2, .int .i64 a1_3, .int .i64 a1_4, .int .i64 a1_5] 42 (0, 0)) (by (with_reducible repeat (first | refine blk_drewN ?_ _ | refine blk_drew ?_ | refine blk_alloc ?_ _)); exact BK291.out) hb); have n2_ := Aside0.mk (blk_below (g := gb299) (o := .cells #[.int .i64 t295, .int .i64 t296, .int .i64 t297] 26 (0, 0)) (by (with_reducible repeat (first | refine blk_drewN ?_ _ | refine blk_drew ?_ | refine blk_alloc ?_ _)); exact BK299.out) hb); have n3_ := Aside0.mk (blk_below (g := gb304) (o := .cells #[.int .i64 t300, .int .i64 t301, .int .i64 t302] 26 (0, 0)) (by (with_reducible repeat (first | refine blk_drewN ?_ _ | refine blk_drew ?_ | refine blk_alloc ?_ _)); exact BK304.out) hb); have n4_ := Aside0.mk (below_step (by repeat (first | (with_reducible first | exact HB.out | apply below_alloc | apply pw_below_drewN | apply below_drew1 | refine below_set ?_ GE290.out | refine below_set ?_ GE291.out | refine below_set ?_ GE299.out | refine below_set ?_ GE304.out) | exact HB.out)) hb); clear BK290; clear BK291; clear BK299; clear BK304; clear HB; have BK290 := n0_; have BK291 := n1_; have BK299 := n2_; have BK304 := n3_; have HB := n4_; clear n0_ n1_ n2_ n3_ n4_; (try clear hb); (try clear hb2); (try clear hk); (try clear hi)))
                        go_ret
                        exact ⟨by first | rfl | (simp [errW_none, errW_some] <;> rfl) | (simp [*, errW_none, errW_some] <;> rfl), by repeat (first | (with_reducible first | exact HB.out | apply below_alloc | apply pw_below_drewN | apply below_drew1 | refine below_set ?_ GE290.out | refine below_set ?_ GE291.out | refine below_set ?_ GE299.out | refine below_set ?_ GE304.out) | exact HB.out)⟩
                    · replace c50 := Bool.eq_false_iff.mpr c50
                      subst c50
                      have H1 : (some true) = some r := by rw [if_neg (show ¬ (false = true) by decide)] at H; exact H
                      clear H
                      have H := H1
                      clear H1
                      obtain rfl := Option.some.inj H
                      go_wp2
                      go_ret
                      exact ⟨by first | rfl | (simp [errW_none, errW_some] <;> rfl) | (simp [*, errW_none, errW_some] <;> rfl), by repeat (first | (with_reducible first | exact HB.out | apply below_alloc | apply pw_below_drewN | apply below_drew1 | refine below_set ?_ GE290.out | refine below_set ?_ GE291.out | refine below_set ?_ GE299.out | refine below_set ?_ GE304.out) | exact HB.out)⟩
  · replace c4 := Bool.eq_false_iff.mpr c4
    subst c4
    have H1 : (some false) = some r := by rw [if_neg (show ¬ (false = true) by decide)] at H; exact H
    clear H
    have H := H1
    clear H1
    obtain rfl := Option.some.inj H
    go_enter Try.func10, Try.ntmps10
    go_wp2_with (first | ((with_reducible refine gate_dst (N := 2) rfl ?_); refine box_event ?hg (N := 2) ?hd (cs := #[.int .i64 a0_0, .string a0_1, .int .i64 a0_2, .int .i64 a0_3, .int .i64 a0_4, .int .i64 a0_5]) (t := 42) ?hr ?_; (case hd => rfl); (case hg => rfl); (case hr => first | (go_simp; done) | (go_simp; rfl)); intro gb290 hg w73 hbox hb; have n0_ := Aside0.mk (below_step (by repeat (first | (with_reducible first | exact HB.out | apply below_alloc | apply pw_below_drewN | apply below_drew1) | exact HB.out)) hb); have n1_ := Aside0.mk (hbox); have n2_ := Aside0.mk ((by rw [hg]; exact (below_size (by repeat (first | (with_reducible first | exact HB.out | apply below_alloc | apply pw_below_drewN | apply below_drew1) | exact HB.out))) : w.heap.size ≤ gb290)); have n3_ := Aside0.mk ((by rw [hg]; exact (below_size (by repeat (first | (with_reducible first | exact HB.out | apply below_alloc | apply pw_below_drewN | apply below_drew1) | exact HB.out))) : w.heap.size ≤ gb290)); clear HB; have HB := n0_; have BK290 := n1_; have GW290 := n2_; have GE290 := n3_; clear n0_ n1_ n2_ n3_; clear hb hbox hg) | ((with_reducible refine gate_dst (N := 3) rfl ?_); refine box_event ?hg (N := 3) ?hd (cs := #[.int .i64 a1_0, .string a1_1, .int .i64 a1_2, .int .i64 a1_3, .int .i64 a1_4, .int .i64 a1_5]) (t := 42) ?hr ?_; (case hd => rfl); (case hg => rfl); (case hr => first | (go_simp; done) | (go_simp; rfl)); intro gb291 hg w74 hbox hb; have n0_ := Aside0.mk (blk_below (g := gb290) (o := .cells #[.int .i64 a0_0, .string a0_1, .int .i64 a0_2, .int .i64 a0_3, .int .i64 a0_4, .int .i64 a0_5] 42 (0, 0)) (by (with_reducible repeat (first | refine blk_drewN ?_ _ | refine blk_drew ?_ | refine blk_alloc ?_ _)); exact BK290.out) hb); have n1_ := Aside0.mk (below_step (by repeat (first | (with_reducible first | exact HB.out | apply below_alloc | apply pw_below_drewN | apply below_drew1 | refine below_set ?_ GE290.out) | exact HB.out)) hb); have n2_ := Aside0.mk (hbox); have n3_ := Aside0.mk ((by rw [hg]; exact (below_size (by repeat (first | (with_reducible first | exact HB.out | apply below_alloc | apply pw_below_drewN | apply below_drew1 | refine below_set ?_ GE290.out) | exact HB.out))) : w.heap.size ≤ gb291)); have n4_ := Aside0.mk ((by rw [hg]; exact (below_size (by repeat (first | (with_reducible first | exact HB.out | apply below_alloc | apply pw_below_drewN | apply below_drew1 | refine below_set ?_ GE290.out) | exact HB.out))) : w.heap.size ≤ gb291)); have n5_ := Aside0.mk ((by rw [hg]; exact Nat.ne_of_lt (blk_lt (g := gb290) (o := .cells #[.int .i64 a0_0, .string a0_1, .int .i64 a0_2, .int .i64 a0_3, .int .i64 a0_4, .int .i64 a0_5] 42 (0, 0)) (by (with_reducible repeat (first | refine blk_drewN ?_ _ | refine blk_drew ?_ | refine blk_alloc ?_ _)); exact BK290.out)) : gb290 ≠ gb291)); have n6_ := Aside0.mk ((by rw [hg]; exact Nat.ne_of_gt (blk_lt (g := gb290) (o := .cells #[.int .i64 a0_0, .string a0_1, .int .i64 a0_2, .int .i64 a0_3, .int .i64 a0_4, .int .i64 a0_5] 42 (0, 0)) (by (with_reducible repeat (first | refine blk_drewN ?_ _ | refine blk_drew ?_ | refine blk_alloc ?_ _)); exact BK290.out)) : gb291 ≠ gb290)); clear BK290; clear HB; have BK290 := n0_; have HB := n1_; have BK291 := n2_; have GW291 := n3_; have GE291 := n4_; have NB290_291 := n5_; have NB291_290 := n6_; clear n0_ n1_ n2_ n3_ n4_ n5_ n6_; clear hb hbox hg) | ((with_reducible refine gate_callee (f := 11) rfl ?_); refine goesL_ (some 13) rfl rfl Try.func11 (by kernel_rfl) rfl #[] rfl (by (try simp only [List.map_toArray, List.map_cons, List.map_nil]); first | done | rfl | (simp only [List.length_drop, List.length_take]; rfl)) ?_; (with_reducible refine (ontimelaw45_awake.calls k  false _ A3.out).mono ?_); rintro e w75 ⟨rfl, hb⟩; refine ⟨_, rfl, ?_⟩; have n0_ := Aside0.mk (blk_below (g := gb290) (o := .cells #[.int .i64 a0_0, .string a0_1, .int .i64 a0_2, .int .i64 a0_3, .int .i64 a0_4, .int .i64 a0_5] 42 (0, 0)) (by (with_reducible repeat (first | refine blk_drewN ?_ _ | refine blk_drew ?_ | refine blk_alloc ?_ _)); exact BK290.out) hb); have n1_ := Aside0.mk (blk_below (g := gb291) (o := .cells #[.int .i64 a1_0, .string a1_1, .int .i64 a1_2, .int .i64 a1_3, .int .i64 a1_4, .int .i64 a1_5] 42 (0, 0)) (by (with_reducible repeat (first | refine blk_drewN ?_ _ | refine blk_drew ?_ | refine blk_alloc ?_ _)); exact BK291.out) hb); have n2_ := Aside0.mk (below_step (by repeat (first | (with_reducible first | exact HB.out | apply below_alloc | apply pw_below_drewN | apply below_drew1 | refine below_set ?_ GE290.out | refine below_set ?_ GE291.out) | exact HB.out)) hb); clear BK290; clear BK291; clear HB; have BK290 := n0_; have BK291 := n1_; have HB := n2_; clear n0_ n1_ n2_; (try clear hb); (try clear hb2); (try clear hk); (try clear hi)))
    go_ret
    exact ⟨by first | rfl | (simp [errW_none, errW_some] <;> rfl) | (simp [*, errW_none, errW_some] <;> rfl), by repeat (first | (with_reducible first | exact HB.out | apply below_alloc | apply pw_below_drewN | apply below_drew1 | refine below_set ?_ GE290.out | refine below_set ?_ GE291.out) | exact HB.out)⟩

end Go.Proofs.Ytpbogldeojnaeaa.P
