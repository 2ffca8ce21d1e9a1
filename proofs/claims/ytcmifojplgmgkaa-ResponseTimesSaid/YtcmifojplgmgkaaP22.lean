-- written by wip/drive.py (a driver of this session's own over the kit's print.py)
import Derived.Test.YtcmifojplgmgkaaP0
import Derived.Test.YtcmifojplgmgkaaP3
import Derived.Test.YtcmifojplgmgkaaP8
import Derived.Test.YtcmifojplgmgkaaP10
import Derived.Test.YtcmifojplgmgkaaP14
import Derived.Test.YtcmifojplgmgkaaP21
namespace Go.Proofs.Ytcmifojplgmgkaa.P
open Go.RowKit Go.Proofs.YtcmifojplgmgkaaW.PrintWords Go.Proofs.YtcmifojplgmgkaaW.PrintLast Go.Proofs.YtcmifojplgmgkaaW.PrintMore
attribute [local go_sem] max2_int min2_int max_two min_two max_three min_three max_four min_four   -- for this text's walks alone
set_option linter.unusedVariables false
set_option linter.unusedSimpArgs false

/-! ### ontimelaw44_ResponseTimes: function 10 -/
mutual
def ontimelaw44_ResponseTimes.l0 : Nat → List (S49) → Int → Int → Int → List Int → Int → List Int → Bool → Int → Int → Option (Bool)
  | 0, _, _, _, _, _, _, _, _, _, _ => none
  | k + 1, x0, x1, x5, x6, x7, x8, x9, x10, x59, x60 => if x60 < x59 then ((ontimelaw44_plain.f k x0).bind fun t323 => ((ontimeref44_Response.f k t323 x60).bind fun bt326 => (if 0 ≤ x60 then (if x60 < (x9.length : Int) then ((some (x9.set (x60 : Int).toNat bt326.1 : List Int)).bind fun y328 => (if x10 = true then (ontimelaw44_ResponseTimes.l0 k x0 x1 x5 x6 x7 x8 y328 true x59 (wrap64 (x60 + 1))) else (ontimelaw44_ResponseTimes.l0 k x0 x1 x5 x6 x7 x8 y328 (!bt326.2) x59 (wrap64 (x60 + 1))))) else (none)) else (none)))) else (if (x10 != (x8 == 21)) = true then (ontimelaw44_ResponseTimes.j1 k x0 x1 x5 x6 x7 x9 x10 true) else (if (x10 == (x8 == 0)) = true then (ontimelaw44_ResponseTimes.j1 k x0 x1 x5 x6 x7 x9 x10 true) else ((response_Schedulable.f k x0).bind fun t329 => (ontimelaw44_ResponseTimes.j1 k x0 x1 x5 x6 x7 x9 x10 (t329 == x10)))))
def ontimelaw44_ResponseTimes.j1 : Nat → List (S49) → Int → Int → Int → List Int → List Int → Bool → Bool → Option (Bool)
  | 0, _, _, _, _, _, _, _, _ => none
  | k + 1, x0, x1, x5, x6, x7, x9, x10, x95 => if x95 = true then (some false) else (if x10 = true then (if (x7.length : Int) = 0 then (ontimelaw44_ResponseTimes.j2 k x0 x1 x5 x6 x7 x9 false) else (ontimelaw44_ResponseTimes.j2 k x0 x1 x5 x6 x7 x9 true)) else (ontimelaw44_ResponseTimes.j2 k x0 x1 x5 x6 x7 x9 ((x7.length : Int) != (x0.length : Int))))
def ontimelaw44_ResponseTimes.j2 : Nat → List (S49) → Int → Int → Int → List Int → List Int → Bool → Option (Bool)
  | 0, _, _, _, _, _, _, _ => none
  | k + 1, x0, x1, x5, x6, x7, x9, x112 => if x112 = true then (some false) else (ontimelaw44_ResponseTimes.l1 k x0 x1 x5 x6 x7 x9 (x7.length : Int) 0)
def ontimelaw44_ResponseTimes.l1 : Nat → List (S49) → Int → Int → Int → List Int → List Int → Int → Int → Option (Bool)
  | 0, _, _, _, _, _, _, _, _ => none
  | k + 1, x0, x1, x5, x6, x7, x9, x114, x115 => if x115 < x114 then (if 0 ≤ x115 then (if x115 < (x7.length : Int) then (if x115 < (x9.length : Int) then (if (rd x7 x115) = (rd x9 x115) then (ontimelaw44_ResponseTimes.l1 k x0 x1 x5 x6 x7 x9 x114 (wrap64 (x115 + 1))) else (some false)) else (none)) else (none)) else (none)) else (if x1 < 0 then (ontimelaw44_ResponseTimes.j4 k x0 x1 x5 x6 true) else (ontimelaw44_ResponseTimes.j4 k x0 x1 x5 x6 (decide (x1 ≥ (x0.length : Int)))))
def ontimelaw44_ResponseTimes.j4 : Nat → List (S49) → Int → Int → Int → Bool → Option (Bool)
  | 0, _, _, _, _, _ => none
  | k + 1, x0, x1, x5, x6, x135 => if x135 = true then (if x5 = 0 then (some (x6 == 2)) else (some false)) else ((ontimelaw44_plain.f k x0).bind fun t332 => ((ontimeref44_Response.f k t332 x1).bind fun bt335 => (if bt335.2 = true then (if x6 = 0 then (if x5 = bt335.1 then (some true) else (some false)) else (some false)) else (if x6 = 21 then (some (x5 == 0)) else (some false)))))
end
def ontimelaw44_ResponseTimes.f (k : Nat) (l0 : List (S49)) (a1 : Int) : Option (Bool) := (ontimelaw44_awake.f k).bind fun t310 => (if t310 = true then ((ontimelaw44_great.f k l0).bind fun t311 => (if t311 = true then (some true) else ((response_Response.f k l0 a1).bind fun bt312 => ((response_All.f k l0).bind fun bt314 => ((ceiling_Valid.f k l0).bind fun t318 => (if t318 = true then (if 0 ≤ (l0.length : Int) then (if ((l0.length : Int) : Int).toNat ≤ 35184372088832 then (ontimelaw44_ResponseTimes.l0 k l0 a1 bt312.1 bt312.2 bt314.1 bt314.2 (List.replicate ((l0.length : Int) : Int).toNat 0) false (l0.length : Int) 0) else (none)) else (none)) else (if bt312.1 = 0 then (if bt312.2 = 1 then (if (bt314.1.length : Int) = 0 then (if bt314.2 = 1 then ((response_Schedulable.f k l0).bind fun t319 => (some (!t319))) else (some false)) else (some false)) else (some false)) else (some false)))))))) else (some false))
theorem ontimelaw44_ResponseTimes.mono_l : ∀ k, (∀ y0 y1 y2 y3 y4 y5 y6 y7 y8 y9, LeO (ontimelaw44_ResponseTimes.l0 k y0 y1 y2 y3 y4 y5 y6 y7 y8 y9) (ontimelaw44_ResponseTimes.l0 (k + 1) y0 y1 y2 y3 y4 y5 y6 y7 y8 y9)) ∧ (∀ y0 y1 y2 y3 y4 y5 y6 y7, LeO (ontimelaw44_ResponseTimes.j1 k y0 y1 y2 y3 y4 y5 y6 y7) (ontimelaw44_ResponseTimes.j1 (k + 1) y0 y1 y2 y3 y4 y5 y6 y7)) ∧ (∀ y0 y1 y2 y3 y4 y5 y6, LeO (ontimelaw44_ResponseTimes.j2 k y0 y1 y2 y3 y4 y5 y6) (ontimelaw44_ResponseTimes.j2 (k + 1) y0 y1 y2 y3 y4 y5 y6)) ∧ (∀ y0 y1 y2 y3 y4 y5 y6 y7, LeO (ontimelaw44_ResponseTimes.l1 k y0 y1 y2 y3 y4 y5 y6 y7) (ontimelaw44_ResponseTimes.l1 (k + 1) y0 y1 y2 y3 y4 y5 y6 y7)) ∧ (∀ y0 y1 y2 y3 y4, LeO (ontimelaw44_ResponseTimes.j4 k y0 y1 y2 y3 y4) (ontimelaw44_ResponseTimes.j4 (k + 1) y0 y1 y2 y3 y4))
  | 0 => ⟨fun _ _ _ _ _ _ _ _ _ _ r h => by simp [ontimelaw44_ResponseTimes.l0] at h, fun _ _ _ _ _ _ _ _ r h => by simp [ontimelaw44_ResponseTimes.j1] at h, fun _ _ _ _ _ _ _ r h => by simp [ontimelaw44_ResponseTimes.j2] at h, fun _ _ _ _ _ _ _ _ r h => by simp [ontimelaw44_ResponseTimes.l1] at h, fun _ _ _ _ _ r h => by simp [ontimelaw44_ResponseTimes.j4] at h⟩
  | k + 1 => by
    obtain ⟨ih0, ih1, ih2, ih3, ih4⟩ := ontimelaw44_ResponseTimes.mono_l k
    refine ⟨?_, ?_, ?_, ?_, ?_⟩
    · intro y0 y1 y2 y3 y4 y5 y6 y7 y8 y9
      unfold ontimelaw44_ResponseTimes.l0
      repeat' first
      | (with_reducible exact ih0 _ _ _ _ _ _ _ _ _ _)
      | (with_reducible exact ih1 _ _ _ _ _ _ _ _)
      | (with_reducible exact ih2 _ _ _ _ _ _ _)
      | (with_reducible exact ih3 _ _ _ _ _ _ _ _)
      | (with_reducible exact ih4 _ _ _ _ _)
      | (with_reducible exact ceiling_Valid.mono _ _)
      | (with_reducible exact ontimelaw44_awake.mono _)
      | (with_reducible exact ontimelaw44_great.mono _ _)
      | (with_reducible exact ontimelaw44_plain.mono _ _)
      | (with_reducible exact ontimeref44_Response.mono _ _ _)
      | (with_reducible exact response_All.mono _ _)
      | (with_reducible exact response_Response.mono _ _ _)
      | (with_reducible exact response_Schedulable.mono _ _)
      | (with_reducible exact LeO.refl _)
      | (with_reducible exact LeO.none _)
      | (with_reducible refine LeO.ite ?_ ?_)
      | (with_reducible refine LeO.bind ?_ (fun _ => ?_))
      | exact ih0 _ _ _ _ _ _ _ _ _ _
      | exact ih1 _ _ _ _ _ _ _ _
      | exact ih2 _ _ _ _ _ _ _
      | exact ih3 _ _ _ _ _ _ _ _
      | exact ih4 _ _ _ _ _
      | exact ceiling_Valid.mono _ _
      | exact ontimelaw44_awake.mono _
      | exact ontimelaw44_great.mono _ _
      | exact ontimelaw44_plain.mono _ _
      | exact ontimeref44_Response.mono _ _ _
      | exact response_All.mono _ _
      | exact response_Response.mono _ _ _
      | exact response_Schedulable.mono _ _
      | exact LeO.none _
      | refine LeO.ite ?_ ?_
      | refine LeO.bind ?_ (fun _ => ?_)
    · intro y0 y1 y2 y3 y4 y5 y6 y7
      unfold ontimelaw44_ResponseTimes.j1
      repeat' first
      | (with_reducible exact ih0 _ _ _ _ _ _ _ _ _ _)
      | (with_reducible exact ih1 _ _ _ _ _ _ _ _)
      | (with_reducible exact ih2 _ _ _ _ _ _ _)
      | (with_reducible exact ih3 _ _ _ _ _ _ _ _)
      | (with_reducible exact ih4 _ _ _ _ _)
      | (with_reducible exact ceiling_Valid.mono _ _)
      | (with_reducible exact ontimelaw44_awake.mono _)
      | (with_reducible exact ontimelaw44_great.mono _ _)
      | (with_reducible exact ontimelaw44_plain.mono _ _)
      | (with_reducible exact ontimeref44_Response.mono _ _ _)
      | (with_reducible exact response_All.mono _ _)
      | (with_reducible exact response_Response.mono _ _ _)
      | (with_reducible exact response_Schedulable.mono _ _)
      | (with_reducible exact LeO.refl _)
      | (with_reducible exact LeO.none _)
      | (with_reducible refine LeO.ite ?_ ?_)
      | (with_reducible refine LeO.bind ?_ (fun _ => ?_))
      | exact ih0 _ _ _ _ _ _ _ _ _ _
      | exact ih1 _ _ _ _ _ _ _ _
      | exact ih2 _ _ _ _ _ _ _
      | exact ih3 _ _ _ _ _ _ _ _
      | exact ih4 _ _ _ _ _
      | exact ceiling_Valid.mono _ _
      | exact ontimelaw44_awake.mono _
      | exact ontimelaw44_great.mono _ _
      | exact ontimelaw44_plain.mono _ _
      | exact ontimeref44_Response.mono _ _ _
      | exact response_All.mono _ _
      | exact response_Response.mono _ _ _
      | exact response_Schedulable.mono _ _
      | exact LeO.none _
      | refine LeO.ite ?_ ?_
      | refine LeO.bind ?_ (fun _ => ?_)
    · intro y0 y1 y2 y3 y4 y5 y6
      unfold ontimelaw44_ResponseTimes.j2
      repeat' first
      | (with_reducible exact ih0 _ _ _ _ _ _ _ _ _ _)
      | (with_reducible exact ih1 _ _ _ _ _ _ _ _)
      | (with_reducible exact ih2 _ _ _ _ _ _ _)
      | (with_reducible exact ih3 _ _ _ _ _ _ _ _)
      | (with_reducible exact ih4 _ _ _ _ _)
      | (with_reducible exact ceiling_Valid.mono _ _)
      | (with_reducible exact ontimelaw44_awake.mono _)
      | (with_reducible exact ontimelaw44_great.mono _ _)
      | (with_reducible exact ontimelaw44_plain.mono _ _)
      | (with_reducible exact ontimeref44_Response.mono _ _ _)
      | (with_reducible exact response_All.mono _ _)
      | (with_reducible exact response_Response.mono _ _ _)
      | (with_reducible exact response_Schedulable.mono _ _)
      | (with_reducible exact LeO.refl _)
      | (with_reducible exact LeO.none _)
      | (with_reducible refine LeO.ite ?_ ?_)
      | (with_reducible refine LeO.bind ?_ (fun _ => ?_))
      | exact ih0 _ _ _ _ _ _ _ _ _ _
      | exact ih1 _ _ _ _ _ _ _ _
      | exact ih2 _ _ _ _ _ _ _
      | exact ih3 _ _ _ _ _ _ _ _
      | exact ih4 _ _ _ _ _
      | exact ceiling_Valid.mono _ _
      | exact ontimelaw44_awake.mono _
      | exact ontimelaw44_great.mono _ _
      | exact ontimelaw44_plain.mono _ _
      | exact ontimeref44_Response.mono _ _ _
      | exact response_All.mono _ _
      | exact response_Response.mono _ _ _
      | exact response_Schedulable.mono _ _
      | exact LeO.none _
      | refine LeO.ite ?_ ?_
      | refine LeO.bind ?_ (fun _ => ?_)
    · intro y0 y1 y2 y3 y4 y5 y6 y7
      unfold ontimelaw44_ResponseTimes.l1
      repeat' first
      | (with_reducible exact ih0 _ _ _ _ _ _ _ _ _ _)
      | (with_reducible exact ih1 _ _ _ _ _ _ _ _)
      | (with_reducible exact ih2 _ _ _ _ _ _ _)
      | (with_reducible exact ih3 _ _ _ _ _ _ _ _)
      | (with_reducible exact ih4 _ _ _ _ _)
      | (with_reducible exact ceiling_Valid.mono _ _)
      | (with_reducible exact ontimelaw44_awake.mono _)
      | (with_reducible exact ontimelaw44_great.mono _ _)
      | (with_reducible exact ontimelaw44_plain.mono _ _)
      | (with_reducible exact ontimeref44_Response.mono _ _ _)
      | (with_reducible exact response_All.mono _ _)
      | (with_reducible exact response_Response.mono _ _ _)
      | (with_reducible exact response_Schedulable.mono _ _)
      | (with_reducible exact LeO.refl _)
      | (with_reducible exact LeO.none _)
      | (with_reducible refine LeO.ite ?_ ?_)
      | (with_reducible refine LeO.bind ?_ (fun _ => ?_))
      | exact ih0 _ _ _ _ _ _ _ _ _ _
      | exact ih1 _ _ _ _ _ _ _ _
      | exact ih2 _ _ _ _ _ _ _
      | exact ih3 _ _ _ _ _ _ _ _
      | exact ih4 _ _ _ _ _
      | exact ceiling_Valid.mono _ _
      | exact ontimelaw44_awake.mono _
      | exact ontimelaw44_great.mono _ _
      | exact ontimelaw44_plain.mono _ _
      | exact ontimeref44_Response.mono _ _ _
      | exact response_All.mono _ _
      | exact response_Response.mono _ _ _
      | exact response_Schedulable.mono _ _
      | exact LeO.none _
      | refine LeO.ite ?_ ?_
      | refine LeO.bind ?_ (fun _ => ?_)
    · intro y0 y1 y2 y3 y4
      unfold ontimelaw44_ResponseTimes.j4
      repeat' first
      | (with_reducible exact ih0 _ _ _ _ _ _ _ _ _ _)
      | (with_reducible exact ih1 _ _ _ _ _ _ _ _)
      | (with_reducible exact ih2 _ _ _ _ _ _ _)
      | (with_reducible exact ih3 _ _ _ _ _ _ _ _)
      | (with_reducible exact ih4 _ _ _ _ _)
      | (with_reducible exact ceiling_Valid.mono _ _)
      | (with_reducible exact ontimelaw44_awake.mono _)
      | (with_reducible exact ontimelaw44_great.mono _ _)
      | (with_reducible exact ontimelaw44_plain.mono _ _)
      | (with_reducible exact ontimeref44_Response.mono _ _ _)
      | (with_reducible exact response_All.mono _ _)
      | (with_reducible exact response_Response.mono _ _ _)
      | (with_reducible exact response_Schedulable.mono _ _)
      | (with_reducible exact LeO.refl _)
      | (with_reducible exact LeO.none _)
      | (with_reducible refine LeO.ite ?_ ?_)
      | (with_reducible refine LeO.bind ?_ (fun _ => ?_))
      | exact ih0 _ _ _ _ _ _ _ _ _ _
      | exact ih1 _ _ _ _ _ _ _ _
      | exact ih2 _ _ _ _ _ _ _
      | exact ih3 _ _ _ _ _ _ _ _
      | exact ih4 _ _ _ _ _
      | exact ceiling_Valid.mono _ _
      | exact ontimelaw44_awake.mono _
      | exact ontimelaw44_great.mono _ _
      | exact ontimelaw44_plain.mono _ _
      | exact ontimeref44_Response.mono _ _ _
      | exact response_All.mono _ _
      | exact response_Response.mono _ _ _
      | exact response_Schedulable.mono _ _
      | exact LeO.none _
      | refine LeO.ite ?_ ?_
      | refine LeO.bind ?_ (fun _ => ?_)
theorem ontimelaw44_ResponseTimes.mono : ∀ a0 a1 k, LeO (ontimelaw44_ResponseTimes.f k a0 a1) (ontimelaw44_ResponseTimes.f (k + 1) a0 a1) := by
  intro a0 a1 k
  obtain ⟨ih0, ih1, ih2, ih3, ih4⟩ := ontimelaw44_ResponseTimes.mono_l k
  unfold ontimelaw44_ResponseTimes.f
  repeat' first
      | (with_reducible exact ih0 _ _ _ _ _ _ _ _ _ _)
      | (with_reducible exact ih1 _ _ _ _ _ _ _ _)
      | (with_reducible exact ih2 _ _ _ _ _ _ _)
      | (with_reducible exact ih3 _ _ _ _ _ _ _ _)
      | (with_reducible exact ih4 _ _ _ _ _)
      | (with_reducible exact ceiling_Valid.mono _ _)
      | (with_reducible exact ontimelaw44_awake.mono _)
      | (with_reducible exact ontimelaw44_great.mono _ _)
      | (with_reducible exact ontimelaw44_plain.mono _ _)
      | (with_reducible exact ontimeref44_Response.mono _ _ _)
      | (with_reducible exact response_All.mono _ _)
      | (with_reducible exact response_Response.mono _ _ _)
      | (with_reducible exact response_Schedulable.mono _ _)
      | (with_reducible exact LeO.refl _)
      | (with_reducible exact LeO.none _)
      | (with_reducible refine LeO.ite ?_ ?_)
      | (with_reducible refine LeO.bind ?_ (fun _ => ?_))
      | exact ih0 _ _ _ _ _ _ _ _ _ _
      | exact ih1 _ _ _ _ _ _ _ _
      | exact ih2 _ _ _ _ _ _ _
      | exact ih3 _ _ _ _ _ _ _ _
      | exact ih4 _ _ _ _ _
      | exact ceiling_Valid.mono _ _
      | exact ontimelaw44_awake.mono _
      | exact ontimelaw44_great.mono _ _
      | exact ontimelaw44_plain.mono _ _
      | exact ontimeref44_Response.mono _ _ _
      | exact response_All.mono _ _
      | exact response_Response.mono _ _ _
      | exact response_Schedulable.mono _ _
      | exact LeO.none _
      | refine LeO.ite ?_ ?_
      | refine LeO.bind ?_ (fun _ => ?_)
set_option maxHeartbeats 8000000 in
set_option maxRecDepth 100000 in
theorem ontimelaw44_ResponseTimes.calls (k : Nat) (A0 : Option Addr) (c0 : Nat) (l0 : List (S49)) (a1 : Int) (r : Bool) (w : World) (hr0 : Kd.C k49 w A0 l0.length l0) (hc0 : l0.length ≤ c0) (h : ontimelaw44_ResponseTimes.f k l0 a1 = some r) :
    Calls Try.prog 10 #[.slice A0 l0.length c0, .int .i64 a1] w fun e w' => e = .returned (.bool r) ∧ Below w.heap.size w w' := by
  have HR0 := Aside0.mk hr0
  have HC0 := Aside0.mk hc0
  clear hr0 hc0
  have HB := Aside0.mk (Below.refl w.heap.size w)
  have H : ((ontimelaw44_awake.f k).bind fun t310 => (if t310 = true then ((ontimelaw44_great.f k l0).bind fun t311 => (if t311 = true then (some true) else ((response_Response.f k l0 a1).bind fun bt312 => ((response_All.f k l0).bind fun bt314 => ((ceiling_Valid.f k l0).bind fun t318 => (if t318 = true then (if 0 ≤ (l0.length : Int) then (if ((l0.length : Int) : Int).toNat ≤ 35184372088832 then (ontimelaw44_ResponseTimes.l0 k l0 a1 bt312.1 bt312.2 bt314.1 bt314.2 (List.replicate ((l0.length : Int) : Int).toNat 0) false (l0.length : Int) 0) else (none)) else (none)) else (if bt312.1 = 0 then (if bt312.2 = 1 then (if (bt314.1.length : Int) = 0 then (if bt314.2 = 1 then ((response_Schedulable.f k l0).bind fun t319 => (some (!t319))) else (some false)) else (some false)) else (some false)) else (some false)))))))) else (some false))) = some r := h
  clear h
  replace H := Option.bind_eq_some_iff.mp H
  obtain ⟨t310, A30, H⟩ := H
  replace H : (if t310 = true then ((ontimelaw44_great.f k l0).bind fun t311 => (if t311 = true then (some true) else ((response_Response.f k l0 a1).bind fun bt312 => ((response_All.f k l0).bind fun bt314 => ((ceiling_Valid.f k l0).bind fun t318 => (if t318 = true then (if 0 ≤ (l0.length : Int) then (if ((l0.length : Int) : Int).toNat ≤ 35184372088832 then (ontimelaw44_ResponseTimes.l0 k l0 a1 bt312.1 bt312.2 bt314.1 bt314.2 (List.replicate ((l0.length : Int) : Int).toNat 0) false (l0.length : Int) 0) else (none)) else (none)) else (if bt312.1 = 0 then (if bt312.2 = 1 then (if (bt314.1.length : Int) = 0 then (if bt314.2 = 1 then ((response_Schedulable.f k l0).bind fun t319 => (some (!t319))) else (some false)) else (some false)) else (some false)) else (some false)))))))) else (some false)) = some r := H
  have A3 := Aside0.mk A30
  clear A30
  by_cases c4 : t310 = true
  · subst c4
    have H1 : ((ontimelaw44_great.f k l0).bind fun t311 => (if t311 = true then (some true) else ((response_Response.f k l0 a1).bind fun bt312 => ((response_All.f k l0).bind fun bt314 => ((ceiling_Valid.f k l0).bind fun t318 => (if t318 = true then (if 0 ≤ (l0.length : Int) then (if ((l0.length : Int) : Int).toNat ≤ 35184372088832 then (ontimelaw44_ResponseTimes.l0 k l0 a1 bt312.1 bt312.2 bt314.1 bt314.2 (List.replicate ((l0.length : Int) : Int).toNat 0) false (l0.length : Int) 0) else (none)) else (none)) else (if bt312.1 = 0 then (if bt312.2 = 1 then (if (bt314.1.length : Int) = 0 then (if bt314.2 = 1 then ((response_Schedulable.f k l0).bind fun t319 => (some (!t319))) else (some false)) else (some false)) else (some false)) else (some false)))))))) = some r := by rw [if_pos rfl] at H; exact H
    clear H
    have H := H1
    clear H1
    replace H := Option.bind_eq_some_iff.mp H
    obtain ⟨t311, A50, H⟩ := H
    replace H : (if t311 = true then (some true) else ((response_Response.f k l0 a1).bind fun bt312 => ((response_All.f k l0).bind fun bt314 => ((ceiling_Valid.f k l0).bind fun t318 => (if t318 = true then (if 0 ≤ (l0.length : Int) then (if ((l0.length : Int) : Int).toNat ≤ 35184372088832 then (ontimelaw44_ResponseTimes.l0 k l0 a1 bt312.1 bt312.2 bt314.1 bt314.2 (List.replicate ((l0.length : Int) : Int).toNat 0) false (l0.length : Int) 0) else (none)) else (none)) else (if bt312.1 = 0 then (if bt312.2 = 1 then (if (bt314.1.length : Int) = 0 then (if bt314.2 = 1 then ((response_Schedulable.f k l0).bind fun t319 => (some (!t319))) else (some false)) else (some false)) else (some false)) else (some false))))))) = some r := H
    have A5 := Aside0.mk A50
    clear A50
    by_cases c6 : t311 = true
    · subst c6
      have H1 : (some true) = some r := by rw [if_pos rfl] at H; exact H
      clear H
      have H := H1
      clear H1
      obtain rfl := Option.some.inj H
      go_enter Try.func10, Try.ntmps10
      go_wp2_with (first | (go_at_call 18; (with_reducible refine (ontimelaw44_awake.calls k  true _ A3.out).mono ?_); rintro e w7 ⟨rfl, hb⟩; have n0_ := Aside0.mk (below_step (by repeat (first | (with_reducible first | exact HB.out | apply below_alloc | apply pw_below_drewN | apply below_drew1) | exact HB.out)) hb); clear HB; have HB := n0_; clear n0_; (try clear hb); (try clear hb2); (try clear hk); (try clear hi)) | (go_at_call 19; (with_reducible refine (ontimelaw44_great.calls k _ _ l0 true _ ?side1 ?side2 A5.out).mono ?_); (case side1 => repeat (first | exact (Kd.C_below HR0.out HB.out) | (with_reducible refine Kd.C_alloc ?_ _) | (with_reducible refine Kd.C_drewN ?_ _) | (with_reducible refine Kd.C_drew ?_))); (case side2 => exact HC0.out); rintro e w8 ⟨rfl, hb⟩; have n0_ := Aside0.mk (below_step (by repeat (first | (with_reducible first | exact HB.out | apply below_alloc | apply pw_below_drewN | apply below_drew1) | exact HB.out)) hb); clear HB; have HB := n0_; clear n0_; (try clear hb); (try clear hb2); (try clear hk); (try clear hi)))
      repeat (go_quiet (first | (go_at_call 18; (with_reducible refine (ontimelaw44_awake.calls k  true _ A3.out).mono ?_); rintro e w7 ⟨rfl, hb⟩; have n0_ := Aside0.mk (below_step (by repeat (first | (with_reducible first | exact HB.out | apply below_alloc | apply pw_below_drewN | apply below_drew1) | exact HB.out)) hb); clear HB; have HB := n0_; clear n0_; (try clear hb); (try clear hb2); (try clear hk); (try clear hi)) | (go_at_call 19; (with_reducible refine (ontimelaw44_great.calls k _ _ l0 true _ ?side1 ?side2 A5.out).mono ?_); (case side1 => repeat (first | exact (Kd.C_below HR0.out HB.out) | (with_reducible refine Kd.C_alloc ?_ _) | (with_reducible refine Kd.C_drewN ?_ _) | (with_reducible refine Kd.C_drew ?_))); (case side2 => exact HC0.out); rintro e w8 ⟨rfl, hb⟩; have n0_ := Aside0.mk (below_step (by repeat (first | (with_reducible first | exact HB.out | apply below_alloc | apply pw_below_drewN | apply below_drew1) | exact HB.out)) hb); clear HB; have HB := n0_; clear n0_; (try clear hb); (try clear hb2); (try clear hk); (try clear hi))); try go_wp2_with (first | (go_at_call 18; (with_reducible refine (ontimelaw44_awake.calls k  true _ A3.out).mono ?_); rintro e w7 ⟨rfl, hb⟩; have n0_ := Aside0.mk (below_step (by repeat (first | (with_reducible first | exact HB.out | apply below_alloc | apply pw_below_drewN | apply below_drew1) | exact HB.out)) hb); clear HB; have HB := n0_; clear n0_; (try clear hb); (try clear hb2); (try clear hk); (try clear hi)) | (go_at_call 19; (with_reducible refine (ontimelaw44_great.calls k _ _ l0 true _ ?side1 ?side2 A5.out).mono ?_); (case side1 => repeat (first | exact (Kd.C_below HR0.out HB.out) | (with_reducible refine Kd.C_alloc ?_ _) | (with_reducible refine Kd.C_drewN ?_ _) | (with_reducible refine Kd.C_drew ?_))); (case side2 => exact HC0.out); rintro e w8 ⟨rfl, hb⟩; have n0_ := Aside0.mk (below_step (by repeat (first | (with_reducible first | exact HB.out | apply below_alloc | apply pw_below_drewN | apply below_drew1) | exact HB.out)) hb); clear HB; have HB := n0_; clear n0_; (try clear hb); (try clear hb2); (try clear hk); (try clear hi))))
      go_ret
      exact ⟨by first | rfl | (simp [errW_none, errW_some] <;> rfl) | (simp [*, errW_none, errW_some] <;> rfl), by repeat (first | (with_reducible first | exact HB.out | apply below_alloc | apply pw_below_drewN | apply below_drew1) | exact HB.out)⟩
    · replace c6 := Bool.eq_false_iff.mpr c6
      subst c6
      have H1 : ((response_Response.f k l0 a1).bind fun bt312 => ((response_All.f k l0).bind fun bt314 => ((ceiling_Valid.f k l0).bind fun t318 => (if t318 = true then (if 0 ≤ (l0.length : Int) then (if ((l0.length : Int) : Int).toNat ≤ 35184372088832 then (ontimelaw44_ResponseTimes.l0 k l0 a1 bt312.1 bt312.2 bt314.1 bt314.2 (List.replicate ((l0.length : Int) : Int).toNat 0) false (l0.length : Int) 0) else (none)) else (none)) else (if bt312.1 = 0 then (if bt312.2 = 1 then (if (bt314.1.length : Int) = 0 then (if bt314.2 = 1 then ((response_Schedulable.f k l0).bind fun t319 => (some (!t319))) else (some false)) else (some false)) else (some false)) else (some false)))))) = some r := by rw [if_neg (show ¬ (false = true) by decide)] at H; exact H
      clear H
      have H := H1
      clear H1
      replace H := Option.bind_eq_some_iff.mp H
      obtain ⟨⟨t312, t313⟩, A90, H⟩ := H
      replace H : ((response_All.f k l0).bind fun bt314 => ((ceiling_Valid.f k l0).bind fun t318 => (if t318 = true then (if 0 ≤ (l0.length : Int) then (if ((l0.length : Int) : Int).toNat ≤ 35184372088832 then (ontimelaw44_ResponseTimes.l0 k l0 a1 t312 t313 bt314.1 bt314.2 (List.replicate ((l0.length : Int) : Int).toNat 0) false (l0.length : Int) 0) else (none)) else (none)) else (if t312 = 0 then (if t313 = 1 then (if (bt314.1.length : Int) = 0 then (if bt314.2 = 1 then ((response_Schedulable.f k l0).bind fun t319 => (some (!t319))) else (some false)) else (some false)) else (some false)) else (some false))))) = some r := H
      have A9 := Aside0.mk A90
      clear A90
      replace H := Option.bind_eq_some_iff.mp H
      obtain ⟨⟨t314, t315⟩, A100, H⟩ := H
      replace H : ((ceiling_Valid.f k l0).bind fun t318 => (if t318 = true then (if 0 ≤ (l0.length : Int) then (if ((l0.length : Int) : Int).toNat ≤ 35184372088832 then (ontimelaw44_ResponseTimes.l0 k l0 a1 t312 t313 t314 t315 (List.replicate ((l0.length : Int) : Int).toNat 0) false (l0.length : Int) 0) else (none)) else (none)) else (if t312 = 0 then (if t313 = 1 then (if (t314.length : Int) = 0 then (if t315 = 1 then ((response_Schedulable.f k l0).bind fun t319 => (some (!t319))) else (some false)) else (some false)) else (some false)) else (some false)))) = some r := H
      have A10 := Aside0.mk A100
      clear A100
      replace H := Option.bind_eq_some_iff.mp H
      obtain ⟨t318, A110, H⟩ := H
      replace H : (if t318 = true then (if 0 ≤ (l0.length : Int) then (if ((l0.length : Int) : Int).toNat ≤ 35184372088832 then (ontimelaw44_ResponseTimes.l0 k l0 a1 t312 t313 t314 t315 (List.replicate ((l0.length : Int) : Int).toNat 0) false (l0.length : Int) 0) else (none)) else (none)) else (if t312 = 0 then (if t313 = 1 then (if (t314.length : Int) = 0 then (if t315 = 1 then ((response_Schedulable.f k l0).bind fun t319 => (some (!t319))) else (some false)) else (some false)) else (some false)) else (some false))) = some r := H
      have A11 := Aside0.mk A110
      clear A110
      by_cases c12 : t318 = true
      · subst c12
        have H1 : (if 0 ≤ (l0.length : Int) then (if ((l0.length : Int) : Int).toNat ≤ 35184372088832 then (ontimelaw44_ResponseTimes.l0 k l0 a1 t312 t313 t314 t315 (List.replicate ((l0.length : Int) : Int).toNat 0) false (l0.length : Int) 0) else (none)) else (none)) = some r := by rw [if_pos rfl] at H; exact H
        clear H
        have H := H1
        clear H1
        by_cases c13 : 0 ≤ (l0.length : Int)
        · rw [if_pos c13] at H
          have c13b0 := eq_true c13
          have c13b1 : decide (0 ≤ (l0.length : Int)) = true := decide_eq_true c13
          clear c13
          by_cases c14 : ((l0.length : Int) : Int).toNat ≤ 35184372088832
          · rw [if_pos c14] at H
            have c14b0 := eq_true c14
            have c14b1 : decide (((l0.length : Int) : Int).toNat ≤ 35184372088832) = true := decide_eq_true c14
            clear c14
            obtain ⟨y320, hy320⟩ : ∃ y_ : List Int, y_ = (List.replicate ((l0.length : Int) : Int).toNat 0) := ⟨_, rfl⟩
            replace H : (ontimelaw44_ResponseTimes.l0 k l0 a1 t312 t313 t314 t315 y320 false (l0.length : Int) 0) = some r := by first | (rw [hy320]; with_reducible exact H) | (have H2_ := (Option.bind_some _ _).symm.trans H; rw [hy320]; with_reducible exact H2_) | (have H2_ := (Option.bind_some _ _).symm.trans H; with_reducible exact H2_) | with_reducible exact H | (rw [hy320]; exact H) | exact H
            have Ny320 := Aside0.mk hy320
            clear hy320
            have H' := Aside0.mk H
            clear H
            go_enter Try.func10, Try.ntmps10
            go_wp2_with (first | (go_at_call 18; (with_reducible refine (ontimelaw44_awake.calls k  true _ A3.out).mono ?_); rintro e w15 ⟨rfl, hb⟩; have n0_ := Aside0.mk (below_step (by repeat (first | (with_reducible first | exact HB.out | apply below_alloc | apply pw_below_drewN | apply below_drew1) | exact HB.out)) hb); clear HB; have HB := n0_; clear n0_; (try clear hb); (try clear hb2); (try clear hk); (try clear hi)) | (go_at_call 19; (with_reducible refine (ontimelaw44_great.calls k _ _ l0 false _ ?side1 ?side2 A5.out).mono ?_); (case side1 => repeat (first | exact (Kd.C_below HR0.out HB.out) | (with_reducible refine Kd.C_alloc ?_ _) | (with_reducible refine Kd.C_drewN ?_ _) | (with_reducible refine Kd.C_drew ?_))); (case side2 => exact HC0.out); rintro e w16 ⟨rfl, hb⟩; have n0_ := Aside0.mk (below_step (by repeat (first | (with_reducible first | exact HB.out | apply below_alloc | apply pw_below_drewN | apply below_drew1) | exact HB.out)) hb); clear HB; have HB := n0_; clear n0_; (try clear hb); (try clear hb2); (try clear hk); (try clear hi)) | (go_at_call 23; (with_reducible refine (response_Response.calls k _ _ l0 a1 t312 t313 _ ?side1 ?side2 A9.out).mono ?_); (case side1 => repeat (first | exact (Kd.C_below HR0.out HB.out) | (with_reducible refine Kd.C_alloc ?_ _) | (with_reducible refine Kd.C_drewN ?_ _) | (with_reducible refine Kd.C_drew ?_))); (case side2 => exact HC0.out); rintro e w17 ⟨rfl, hb⟩; have n0_ := Aside0.mk (below_step (by repeat (first | (with_reducible first | exact HB.out | apply below_alloc | apply pw_below_drewN | apply below_drew1) | exact HB.out)) hb); clear HB; have HB := n0_; clear n0_; (try clear hb); (try clear hb2); (try clear hk); (try clear hi)) | (go_at_call 29; (with_reducible refine (response_All.calls k _ _ l0 t314 t315 _ ?side1 ?side2 A10.out).mono ?_); (case side1 => repeat (first | exact (Kd.C_below HR0.out HB.out) | (with_reducible refine Kd.C_alloc ?_ _) | (with_reducible refine Kd.C_drewN ?_ _) | (with_reducible refine Kd.C_drew ?_))); (case side2 => exact HC0.out); rintro e w18 ⟨v316, rfl, ho0, hb⟩; have n0_ := Aside0.mk (Kd.R_lower ho0 (below_size (by repeat (first | (with_reducible first | exact HB.out | apply below_alloc | apply pw_below_drewN | apply below_drew1) | exact HB.out)))); have n1_ := Aside0.mk (below_step (by repeat (first | (with_reducible first | exact HB.out | apply below_alloc | apply pw_below_drewN | apply below_drew1) | exact HB.out)) hb); clear HB; have HO317 := n0_; have HB := n1_; clear n0_ n1_; (try clear hb); (try clear hb2); (try clear hk); (try clear hi); (try clear ho0)) | (go_at_call 20; (with_reducible refine (ceiling_Valid.calls k _ _ l0 true _ ?side1 ?side2 A11.out).mono ?_); (case side1 => repeat (first | exact (Kd.C_below HR0.out HB.out) | (with_reducible refine Kd.C_alloc ?_ _) | (with_reducible refine Kd.C_drewN ?_ _) | (with_reducible refine Kd.C_drew ?_))); (case side2 => exact HC0.out); rintro e w19 ⟨rfl, hb⟩; have n0_ := Aside0.mk (Kd.R_below (by (with_reducible repeat (first | apply Kd.R_alloc | apply Kd.R_drewN | apply Kd.R_drew)); exact HO317.out) hb); have n1_ := Aside0.mk (below_step (by repeat (first | (with_reducible first | exact HB.out | apply below_alloc | apply pw_below_drewN | apply below_drew1) | exact HB.out)) hb); clear HO317; clear HB; have HO317 := n0_; have HB := n1_; clear n0_ n1_; (try clear hb); (try clear hb2); (try clear hk); (try clear hi)) | ((with_reducible refine gate_dst (N := 57) rfl ?_); (try (refine gate_guard (by rfl) ?_; dsimp only)); refine Kd.R_make (Kd.int .i64) _ 3 rfl (N := 57) rfl 38 _ _ rfl (l0.length : Int) rfl rfl Try.underlying38 (.int .i64 0) 8 info3 rfl (by decide) (by omega) 0 (ok := fun _ => True) (okp := fun _ => True) rfl (fun _ hk => hk) trivial (of_decide_eq_true (by first | (with_reducible assumption) | assumption)) (Nat.le_trans (Nat.mul_le_mul_right _ (of_decide_eq_true (by first | (with_reducible assumption) | assumption) : (l0.length : Int).toNat ≤ 35184372088832)) (by omega)) (Below.refl _ _) (Nat.le_refl _) ?_; intro v321 w20 ho21 hb hg_ hnew_; clear hg_ hnew_; (first | rw [← Ny320.out] at ho21 | (simp only [Int.reduceToNat] at ho21; rw [← Ny320.out] at ho21)); have n0_ := Aside0.mk (Kd.R_elder' (by (with_reducible repeat (first | apply Kd.R_alloc | apply Kd.R_drewN | apply Kd.R_drew)); exact HO317.out) (Kd.R_base ho21) hb); have n1_ := Aside0.mk (Kd.R_lower (Kd.R_new' ho21 (Kd.R_lt (by (with_reducible repeat (first | apply Kd.R_alloc | apply Kd.R_drewN | apply Kd.R_drew)); exact HO317.out))) (below_size (by repeat (first | (with_reducible first | exact HB.out | apply below_alloc | apply pw_below_drewN | apply below_drew1) | exact HB.out)))); have n2_ := Aside0.mk (below_step (by repeat (first | (with_reducible first | exact HB.out | apply below_alloc | apply pw_below_drewN | apply below_drew1) | exact HB.out)) hb); clear HO317; clear HB; have HO317 := n0_; have HO322 := n1_; have HB := n2_; clear n0_ n1_ n2_; clear hb ho21))
            repeat (go_quiet (first | (go_at_call 18; (with_reducible refine (ontimelaw44_awake.calls k  true _ A3.out).mono ?_); rintro e w15 ⟨rfl, hb⟩; have n0_ := Aside0.mk (below_step (by repeat (first | (with_reducible first | exact HB.out | apply below_alloc | apply pw_below_drewN | apply below_drew1) | exact HB.out)) hb); clear HB; have HB := n0_; clear n0_; (try clear hb); (try clear hb2); (try clear hk); (try clear hi)) | (go_at_call 19; (with_reducible refine (ontimelaw44_great.calls k _ _ l0 false _ ?side1 ?side2 A5.out).mono ?_); (case side1 => repeat (first | exact (Kd.C_below HR0.out HB.out) | (with_reducible refine Kd.C_alloc ?_ _) | (with_reducible refine Kd.C_drewN ?_ _) | (with_reducible refine Kd.C_drew ?_))); (case side2 => exact HC0.out); rintro e w16 ⟨rfl, hb⟩; have n0_ := Aside0.mk (below_step (by repeat (first | (with_reducible first | exact HB.out | apply below_alloc | apply pw_below_drewN | apply below_drew1) | exact HB.out)) hb); clear HB; have HB := n0_; clear n0_; (try clear hb); (try clear hb2); (try clear hk); (try clear hi)) | (go_at_call 23; (with_reducible refine (response_Response.calls k _ _ l0 a1 t312 t313 _ ?side1 ?side2 A9.out).mono ?_); (case side1 => repeat (first | exact (Kd.C_below HR0.out HB.out) | (with_reducible refine Kd.C_alloc ?_ _) | (with_reducible refine Kd.C_drewN ?_ _) | (with_reducible refine Kd.C_drew ?_))); (case side2 => exact HC0.out); rintro e w17 ⟨rfl, hb⟩; have n0_ := Aside0.mk (below_step (by repeat (first | (with_reducible first | exact HB.out | apply below_alloc | apply pw_below_drewN | apply below_drew1) | exact HB.out)) hb); clear HB; have HB := n0_; clear n0_; (try clear hb); (try clear hb2); (try clear hk); (try clear hi)) | (go_at_call 29; (with_reducible refine (response_All.calls k _ _ l0 t314 t315 _ ?side1 ?side2 A10.out).mono ?_); (case side1 => repeat (first | exact (Kd.C_below HR0.out HB.out) | (with_reducible refine Kd.C_alloc ?_ _) | (with_reducible refine Kd.C_drewN ?_ _) | (with_reducible refine Kd.C_drew ?_))); (case side2 => exact HC0.out); rintro e w18 ⟨v316, rfl, ho0, hb⟩; have n0_ := Aside0.mk (Kd.R_lower ho0 (below_size (by repeat (first | (with_reducible first | exact HB.out | apply below_alloc | apply pw_below_drewN | apply below_drew1) | exact HB.out)))); have n1_ := Aside0.mk (below_step (by repeat (first | (with_reducible first | exact HB.out | apply below_alloc | apply pw_below_drewN | apply below_drew1) | exact HB.out)) hb); clear HB; have HO317 := n0_; have HB := n1_; clear n0_ n1_; (try clear hb); (try clear hb2); (try clear hk); (try clear hi); (try clear ho0)) | (go_at_call 20; (with_reducible refine (ceiling_Valid.calls k _ _ l0 true _ ?side1 ?side2 A11.out).mono ?_); (case side1 => repeat (first | exact (Kd.C_below HR0.out HB.out) | (with_reducible refine Kd.C_alloc ?_ _) | (with_reducible refine Kd.C_drewN ?_ _) | (with_reducible refine Kd.C_drew ?_))); (case side2 => exact HC0.out); rintro e w19 ⟨rfl, hb⟩; have n0_ := Aside0.mk (Kd.R_below (by (with_reducible repeat (first | apply Kd.R_alloc | apply Kd.R_drewN | apply Kd.R_drew)); exact HO317.out) hb); have n1_ := Aside0.mk (below_step (by repeat (first | (with_reducible first | exact HB.out | apply below_alloc | apply pw_below_drewN | apply below_drew1) | exact HB.out)) hb); clear HO317; clear HB; have HO317 := n0_; have HB := n1_; clear n0_ n1_; (try clear hb); (try clear hb2); (try clear hk); (try clear hi)) | ((with_reducible refine gate_dst (N := 57) rfl ?_); (try (refine gate_guard (by rfl) ?_; dsimp only)); refine Kd.R_make (Kd.int .i64) _ 3 rfl (N := 57) rfl 38 _ _ rfl (l0.length : Int) rfl rfl Try.underlying38 (.int .i64 0) 8 info3 rfl (by decide) (by omega) 0 (ok := fun _ => True) (okp := fun _ => True) rfl (fun _ hk => hk) trivial (of_decide_eq_true (by first | (with_reducible assumption) | assumption)) (Nat.le_trans (Nat.mul_le_mul_right _ (of_decide_eq_true (by first | (with_reducible assumption) | assumption) : (l0.length : Int).toNat ≤ 35184372088832)) (by omega)) (Below.refl _ _) (Nat.le_refl _) ?_; intro v321 w20 ho21 hb hg_ hnew_; clear hg_ hnew_; (first | rw [← Ny320.out] at ho21 | (simp only [Int.reduceToNat] at ho21; rw [← Ny320.out] at ho21)); have n0_ := Aside0.mk (Kd.R_elder' (by (with_reducible repeat (first | apply Kd.R_alloc | apply Kd.R_drewN | apply Kd.R_drew)); exact HO317.out) (Kd.R_base ho21) hb); have n1_ := Aside0.mk (Kd.R_lower (Kd.R_new' ho21 (Kd.R_lt (by (with_reducible repeat (first | apply Kd.R_alloc | apply Kd.R_drewN | apply Kd.R_drew)); exact HO317.out))) (below_size (by repeat (first | (with_reducible first | exact HB.out | apply below_alloc | apply pw_below_drewN | apply below_drew1) | exact HB.out)))); have n2_ := Aside0.mk (below_step (by repeat (first | (with_reducible first | exact HB.out | apply below_alloc | apply pw_below_drewN | apply below_drew1) | exact HB.out)) hb); clear HO317; clear HB; have HO317 := n0_; have HO322 := n1_; have HB := n2_; clear n0_ n1_ n2_; clear hb ho21)); try go_wp2_with (first | (go_at_call 18; (with_reducible refine (ontimelaw44_awake.calls k  true _ A3.out).mono ?_); rintro e w15 ⟨rfl, hb⟩; have n0_ := Aside0.mk (below_step (by repeat (first | (with_reducible first | exact HB.out | apply below_alloc | apply pw_below_drewN | apply below_drew1) | exact HB.out)) hb); clear HB; have HB := n0_; clear n0_; (try clear hb); (try clear hb2); (try clear hk); (try clear hi)) | (go_at_call 19; (with_reducible refine (ontimelaw44_great.calls k _ _ l0 false _ ?side1 ?side2 A5.out).mono ?_); (case side1 => repeat (first | exact (Kd.C_below HR0.out HB.out) | (with_reducible refine Kd.C_alloc ?_ _) | (with_reducible refine Kd.C_drewN ?_ _) | (with_reducible refine Kd.C_drew ?_))); (case side2 => exact HC0.out); rintro e w16 ⟨rfl, hb⟩; have n0_ := Aside0.mk (below_step (by repeat (first | (with_reducible first | exact HB.out | apply below_alloc | apply pw_below_drewN | apply below_drew1) | exact HB.out)) hb); clear HB; have HB := n0_; clear n0_; (try clear hb); (try clear hb2); (try clear hk); (try clear hi)) | (go_at_call 23; (with_reducible refine (response_Response.calls k _ _ l0 a1 t312 t313 _ ?side1 ?side2 A9.out).mono ?_); (case side1 => repeat (first | exact (Kd.C_below HR0.out HB.out) | (with_reducible refine Kd.C_alloc ?_ _) | (with_reducible refine Kd.C_drewN ?_ _) | (with_reducible refine Kd.C_drew ?_))); (case side2 => exact HC0.out); rintro e w17 ⟨rfl, hb⟩; have n0_ := Aside0.mk (below_step (by repeat (first | (with_reducible first | exact HB.out | apply below_alloc | apply pw_below_drewN | apply below_drew1) | exact HB.out)) hb); clear HB; have HB := n0_; clear n0_; (try clear hb); (try clear hb2); (try clear hk); (try clear hi)) | (go_at_call 29; (with_reducible refine (response_All.calls k _ _ l0 t314 t315 _ ?side1 ?side2 A10.out).mono ?_); (case side1 => repeat (first | exact (Kd.C_below HR0.out HB.out) | (with_reducible refine Kd.C_alloc ?_ _) | (with_reducible refine Kd.C_drewN ?_ _) | (with_reducible refine Kd.C_drew ?_))); (case side2 => exact HC0.out); rintro e w18 ⟨v316, rfl, ho0, hb⟩; have n0_ := Aside0.mk (Kd.R_lower ho0 (below_size (by repeat (first | (with_reducible first | exact HB.out | apply below_alloc | apply pw_below_drewN | apply below_drew1) | exact HB.out)))); have n1_ := Aside0.mk (below_step (by repeat (first | (with_reducible first | exact HB.out | apply below_alloc | apply pw_below_drewN | apply below_drew1) | exact HB.out)) hb); clear HB; have HO317 := n0_; have HB := n1_; clear n0_ n1_; (try clear hb); (try clear hb2); (try clear hk); (try clear hi); (try clear ho0)) | (go_at_call 20; (with_reducible refine (ceiling_Valid.calls k _ _ l0 true _ ?side1 ?side2 A11.out).mono ?_); (case side1 => repeat (first | exact (Kd.C_below HR0.out HB.out) | (with_reducible refine Kd.C_alloc ?_ _) | (with_reducible refine Kd.C_drewN ?_ _) | (with_reducible refine Kd.C_drew ?_))); (case side2 => exact HC0.out); rintro e w19 ⟨rfl, hb⟩; have n0_ := Aside0.mk (Kd.R_below (by (with_reducible repeat (first | apply Kd.R_alloc | apply Kd.R_drewN | apply Kd.R_drew)); exact HO317.out) hb); have n1_ := Aside0.mk (below_step (by repeat (first | (with_reducible first | exact HB.out | apply below_alloc | apply pw_below_drewN | apply below_drew1) | exact HB.out)) hb); clear HO317; clear HB; have HO317 := n0_; have HB := n1_; clear n0_ n1_; (try clear hb); (try clear hb2); (try clear hk); (try clear hi)) | ((with_reducible refine gate_dst (N := 57) rfl ?_); (try (refine gate_guard (by rfl) ?_; dsimp only)); refine Kd.R_make (Kd.int .i64) _ 3 rfl (N := 57) rfl 38 _ _ rfl (l0.length : Int) rfl rfl Try.underlying38 (.int .i64 0) 8 info3 rfl (by decide) (by omega) 0 (ok := fun _ => True) (okp := fun _ => True) rfl (fun _ hk => hk) trivial (of_decide_eq_true (by first | (with_reducible assumption) | assumption)) (Nat.le_trans (Nat.mul_le_mul_right _ (of_decide_eq_true (by first | (with_reducible assumption) | assumption) : (l0.length : Int).toNat ≤ 35184372088832)) (by omega)) (Below.refl _ _) (Nat.le_refl _) ?_; intro v321 w20 ho21 hb hg_ hnew_; clear hg_ hnew_; (first | rw [← Ny320.out] at ho21 | (simp only [Int.reduceToNat] at ho21; rw [← Ny320.out] at ho21)); have n0_ := Aside0.mk (Kd.R_elder' (by (with_reducible repeat (first | apply Kd.R_alloc | apply Kd.R_drewN | apply Kd.R_drew)); exact HO317.out) (Kd.R_base ho21) hb); have n1_ := Aside0.mk (Kd.R_lower (Kd.R_new' ho21 (Kd.R_lt (by (with_reducible repeat (first | apply Kd.R_alloc | apply Kd.R_drewN | apply Kd.R_drew)); exact HO317.out))) (below_size (by repeat (first | (with_reducible first | exact HB.out | apply below_alloc | apply pw_below_drewN | apply below_drew1) | exact HB.out)))); have n2_ := Aside0.mk (below_step (by repeat (first | (with_reducible first | exact HB.out | apply below_alloc | apply pw_below_drewN | apply below_drew1) | exact HB.out)) hb); clear HO317; clear HB; have HO317 := n0_; have HO322 := n1_; have HB := n2_; clear n0_ n1_ n2_; clear hb ho21)))
            go_loopg [10, 60] k (fun kq v10 v60 w' => ∃ (x9_1 : List Int) (x10_1 : Bool) (x60_1 : Int), v10 = .bool x10_1 ∧ v60 = .int .i64 x60_1 ∧ Aside0 (ontimelaw44_ResponseTimes.l0 kq l0 a1 t312 t313 t314 t315 x9_1 x10_1 (l0.length : Int) x60_1 = some r) ∧ Aside0 (kq ≤ k) ∧ Aside0 (Kd.R (Kd.int .i64) 3 w' w.heap.size (fun k_ => some k_ ≠ (v321 : Value).ownBlock) v316 t314) ∧ Aside0 (Kd.R (Kd.int .i64) 3 w' w.heap.size (fun k_ => some k_ ≠ (v316 : Value).ownBlock) v321 x9_1) ∧ Aside0 (Below w.heap.size w w'))
            case atStart => exact ⟨(y320), (false), (0), (by first | rfl | (simp; done) | (simp [*]; done)), (by first | rfl | (simp; done) | (simp [*]; done)), H', ⟨Nat.le_refl _⟩, ⟨by (with_reducible repeat (first | apply Kd.R_alloc | apply Kd.R_drewN | apply Kd.R_drew)); exact Kd.R_mono HO317.out (fun _ hk => hk.2)⟩, ⟨by (with_reducible repeat (first | apply Kd.R_alloc | apply Kd.R_drewN | apply Kd.R_drew)); exact Kd.R_mono HO322.out (fun _ hk => hk.2)⟩, ⟨by repeat (first | (with_reducible first | exact HB.out | apply below_alloc | apply pw_below_drewN | apply below_drew1) | exact HB.out)⟩⟩
            case round =>
              clear H'
              try clear c1
              try clear p2
              try clear c4
              try clear c6
              try clear c10
              try clear c12
              try clear c13
              try clear c13b0
              try clear c13b1
              try clear c14
              try clear c14b0
              try clear c14b1
              obtain ⟨x9_1, x10_1, x60_1, rfl, rfl, HA, HK1, HO_7, HO_9, HB⟩ := hrel
              cases gk with
              | zero => exact absurd HA.out (by simp [ontimelaw44_ResponseTimes.l0])
              | succ k1 =>
                have H := HA.out
                clear HA
                simp only [ontimelaw44_ResponseTimes.l0] at H
                by_cases c22 : x60_1 < (l0.length : Int)
                · rw [if_pos c22] at H
                  have c22b0 : decide (x60_1 < (l0.length : Int)) = true := decide_eq_true c22
                  clear c22
                  replace H := Option.bind_eq_some_iff.mp H
                  obtain ⟨t323, A230, H⟩ := H
                  replace H : ((ontimeref44_Response.f k1 t323 x60_1).bind fun bt326 => (if 0 ≤ x60_1 then (if x60_1 < (x9_1.length : Int) then ((some (x9_1.set (x60_1 : Int).toNat bt326.1 : List Int)).bind fun y328 => (if x10_1 = true then (ontimelaw44_ResponseTimes.l0 k1 l0 a1 t312 t313 t314 t315 y328 true (l0.length : Int) (wrap64 (x60_1 + 1))) else (ontimelaw44_ResponseTimes.l0 k1 l0 a1 t312 t313 t314 t315 y328 (!bt326.2) (l0.length : Int) (wrap64 (x60_1 + 1))))) else (none)) else (none))) = some r := H
                  have A23 := Aside0.mk A230
                  clear A230
                  replace H := Option.bind_eq_some_iff.mp H
                  obtain ⟨⟨t326, t327⟩, A240, H⟩ := H
                  replace H : (if 0 ≤ x60_1 then (if x60_1 < (x9_1.length : Int) then ((some (x9_1.set (x60_1 : Int).toNat t326 : List Int)).bind fun y328 => (if x10_1 = true then (ontimelaw44_ResponseTimes.l0 k1 l0 a1 t312 t313 t314 t315 y328 true (l0.length : Int) (wrap64 (x60_1 + 1))) else (ontimelaw44_ResponseTimes.l0 k1 l0 a1 t312 t313 t314 t315 y328 (!t327) (l0.length : Int) (wrap64 (x60_1 + 1))))) else (none)) else (none)) = some r := H
                  have A24 := Aside0.mk A240
                  clear A240
                  by_cases c25 : 0 ≤ x60_1
                  · rw [if_pos c25] at H
                    have c25b0 : decide (0 ≤ x60_1) = true := decide_eq_true c25
                    clear c25
                    by_cases c26 : x60_1 < (x9_1.length : Int)
                    · rw [if_pos c26] at H
                      have c26b0 : decide (x60_1 < (x9_1.length : Int)) = true := decide_eq_true c26
                      clear c26
                      obtain ⟨y328, hy328⟩ : ∃ y_ : List Int, y_ = (x9_1.set (x60_1 : Int).toNat t326) := ⟨_, rfl⟩
                      replace H : (if x10_1 = true then (ontimelaw44_ResponseTimes.l0 k1 l0 a1 t312 t313 t314 t315 y328 true (l0.length : Int) (wrap64 (x60_1 + 1))) else (ontimelaw44_ResponseTimes.l0 k1 l0 a1 t312 t313 t314 t315 y328 (!t327) (l0.length : Int) (wrap64 (x60_1 + 1)))) = some r := by first | (rw [hy328]; with_reducible exact H) | (have H2_ := (Option.bind_some _ _).symm.trans H; rw [hy328]; with_reducible exact H2_) | (have H2_ := (Option.bind_some _ _).symm.trans H; with_reducible exact H2_) | with_reducible exact H | (rw [hy328]; exact H) | exact H
                      have Ny328 := Aside0.mk hy328
                      clear hy328
                      by_cases c28 : x10_1 = true
                      · subst c28
                        have H1 : (ontimelaw44_ResponseTimes.l0 k1 l0 a1 t312 t313 t314 t315 y328 true (l0.length : Int) (wrap64 (x60_1 + 1))) = some r := by rw [if_pos rfl] at H; exact H
                        clear H
                        have H := H1
                        clear H1
                        have H' := Aside0.mk H
                        clear H
                        go_wp2_with (first | (go_at_call 27; (with_reducible refine (ontimelaw44_plain.calls k1 _ _ l0 t323 _ ?side1 ?side2 A23.out).mono ?_); (case side1 => repeat (first | exact (Kd.C_below HR0.out HB.out) | (with_reducible refine Kd.C_alloc ?_ _) | (with_reducible refine Kd.C_drewN ?_ _) | (with_reducible refine Kd.C_drew ?_))); (case side2 => exact HC0.out); rintro e w29 ⟨v324, rfl, ho0, hb⟩; have n0_ := Aside0.mk (Kd.R_below (by (with_reducible repeat (first | apply Kd.R_alloc | apply Kd.R_drewN | apply Kd.R_drew)); exact HO_7.out) hb); have n1_ := Aside0.mk (Kd.R_below (by (with_reducible repeat (first | apply Kd.R_alloc | apply Kd.R_drewN | apply Kd.R_drew)); exact HO_9.out) hb); have n2_ := Aside0.mk (Kd.S_lower ho0 (below_size (by repeat (first | (with_reducible first | exact HB.out | apply below_alloc | apply pw_below_drewN | apply below_drew1) | exact HB.out)))); have n3_ := Aside0.mk (below_step (by repeat (first | (with_reducible first | exact HB.out | apply below_alloc | apply pw_below_drewN | apply below_drew1) | exact HB.out)) hb); clear HO_7; clear HO_9; clear HB; have HO_7 := n0_; have HO_9 := n1_; have HO325 := n2_; have HB := n3_; clear n0_ n1_ n2_ n3_; (try clear hb); (try clear hb2); (try clear hk); (try clear hi); (try clear ho0); obtain ⟨Ao30, co30, eo30⟩ := Kd.S_slice HO325.out; subst eo30) | (go_at_call 31; (with_reducible refine (ontimeref44_Response.calls k1 _ _ t323 x60_1 t326 t327 _ ?side1 ?side2 A24.out).mono ?_); (case side1 => repeat (first | exact (Kd.S_reads' HO325.out).2.2 | (with_reducible refine Kd.C_alloc ?_ _) | (with_reducible refine Kd.C_drewN ?_ _) | (with_reducible refine Kd.C_drew ?_))); (case side2 => exact (Kd.S_reads' HO325.out).2.1); rintro e w31 ⟨rfl, hb⟩; have n0_ := Aside0.mk (Kd.R_below (by (with_reducible repeat (first | apply Kd.R_alloc | apply Kd.R_drewN | apply Kd.R_drew)); exact HO_7.out) hb); have n1_ := Aside0.mk (Kd.R_below (by (with_reducible repeat (first | apply Kd.R_alloc | apply Kd.R_drewN | apply Kd.R_drew)); exact HO_9.out) hb); have n2_ := Aside0.mk (Kd.S_below (by (with_reducible repeat (first | apply Kd.S_alloc | apply Kd.S_drewN | apply Kd.S_drew)); exact HO325.out) hb); have n3_ := Aside0.mk (below_step (by repeat (first | (with_reducible first | exact HB.out | apply below_alloc | apply pw_below_drewN | apply below_drew1) | exact HB.out)) hb); clear HO_7; clear HO_9; clear HO325; clear HB; have HO_7 := n0_; have HO_9 := n1_; have HO325 := n2_; have HB := n3_; clear n0_ n1_ n2_ n3_; (try clear hb); (try clear hb2); (try clear hk); (try clear hi); have p27 : 0 ≤ (x60_1 : Int) := of_decide_eq_true (by first | (with_reducible assumption) | assumption); have q27 : (x60_1 : Int) < ((x9_1.length : Int) : Int) := of_decide_eq_true (by first | (with_reducible assumption) | assumption); obtain ⟨go27, co27, eo27, gb27, gl27, cl27, HG27⟩ := Kd.R_form HO_9.out (by omega); (first | cases eo27 | (injection eo27 with ea_ en_ ec_; (first | subst ea_ | (injection ea_ with ea_; subst ea_)); subst ec_; clear en_)); have GB27 := Aside0.mk gb27; have GG27 := Aside0.mk HG27; clear gb27 gl27 HG27; obtain ⟨hx27_0, hf27_0⟩ := Kd.R_celln 0 HO_9.out (x60_1 : Int) p27 q27; replace p27 := eq_true p27; replace q27 := eq_true q27; obtain ⟨hy32_, hz32_⟩ := Kd.R_celln 0 HO_9.out (x60_1 : Int) (of_decide_eq_true (by first | (with_reducible assumption) | assumption)) (of_decide_eq_true (by first | (with_reducible assumption) | assumption)); have HP32 := Kd.R_putg HO_9.out (x60_1 : Int) t326) | ((with_reducible refine gate_store (t := 3) (p := 73) rfl ?_); (try (rw [drewN_self w31]; generalize hq_ : World.drewN w31 _ = w31; have n0_ := Aside0.mk (Kd.R_at hq_ HO_7.out); have n1_ := Aside0.mk (Kd.R_at hq_ HO_9.out); have n2_ := Aside0.mk (Kd.S_at hq_ HO325.out); have n3_ := Aside0.mk (below_at hq_ HB.out); clear hq_ HO_7 HO_9 HO325 HB; have HO_7 := n0_; have HO_9 := n1_; have HO325 := n2_; have HB := n3_; clear n0_ n1_ n2_ n3_; (try (obtain ⟨hy32_, hz32_⟩ := Kd.R_celln 0 HO_9.out (x60_1 : Int) (of_decide_eq_true (by first | (with_reducible assumption) | assumption)) (of_decide_eq_true (by first | (with_reducible assumption) | assumption)))); (try (have HP32 := Kd.R_putg HO_9.out (x60_1 : Int) t326)))); refine store_event (t := 3) (p := 73) (v := ?vo_w33) (w1 := (w31.setCell ⟨go27, (x60_1 : Int).toNat, none⟩ (.int .i64 t326))) ?hg ?ho ?hn ?hr ?_; (case ho => rfl); (case hg => rfl); (case hn => rfl); (case hr => first | (go_simp; done) | (go_simp; rfl)); intro w33 hw; have hg : w31.grownBy w33 (some go27) := (by rw [hw]; exact HP32.2); have hp_ : Kd.R (Kd.int .i64) 3 w33 w.heap.size (fun k_ => some k_ ≠ (v316 : Value).ownBlock) (.slice (some ⟨go27, 0, none⟩) x9_1.length co27) y328 := (by rw [hw, Ny328.out]; exact HP32.1); clear HP32; have n0_ := Aside0.mk (Kd.R_after (v := (.slice (some ⟨go27, 0, none⟩) x9_1.length co27)) (v1 := (.slice (some ⟨go27, 0, none⟩) x9_1.length co27)) (ok := (fun _ => True)) (by (with_reducible repeat (first | apply Kd.R_alloc | apply Kd.R_drewN | apply Kd.R_drew)); exact Kd.R_mono HO_7.out (fun _ hk => ⟨trivial, hk⟩)) hg (.inl rfl)); have n1_ := Aside0.mk (hp_); have n2_ := Aside0.mk (Kd.S_over' (v := (.slice (some ⟨go27, 0, none⟩) x9_1.length co27)) (by (with_reducible repeat (first | apply Kd.S_alloc | apply Kd.S_drewN | apply Kd.S_drew)); exact HO325.out) (Kd.R_typed HO_9.out) (by decide) hg); have n3_ := Aside0.mk ((by rw [hw]; exact below_set (HB.out) GB27.out : Below w.heap.size w w33)); clear HO_7; clear HO_9; clear HO325; clear HB; have HO_7 := n0_; have HO_9 := n1_; have HO325 := n2_; have HB := n3_; clear n0_ n1_ n2_ n3_; clear hg hw hp_))
                        repeat (go_quiet (first | (go_at_call 27; (with_reducible refine (ontimelaw44_plain.calls k1 _ _ l0 t323 _ ?side1 ?side2 A23.out).mono ?_); (case side1 => repeat (first | exact (Kd.C_below HR0.out HB.out) | (with_reducible refine Kd.C_alloc ?_ _) | (with_reducible refine Kd.C_drewN ?_ _) | (with_reducible refine Kd.C_drew ?_))); (case side2 => exact HC0.out); rintro e w29 ⟨v324, rfl, ho0, hb⟩; have n0_ := Aside0.mk (Kd.R_below (by (with_reducible repeat (first | apply Kd.R_alloc | apply Kd.R_drewN | apply Kd.R_drew)); exact HO_7.out) hb); have n1_ := Aside0.mk (Kd.R_below (by (with_reducible repeat (first | apply Kd.R_alloc | apply Kd.R_drewN | apply Kd.R_drew)); exact HO_9.out) hb); have n2_ := Aside0.mk (Kd.S_lower ho0 (below_size (by repeat (first | (with_reducible first | exact HB.out | apply below_alloc | apply pw_below_drewN | apply below_drew1) | exact HB.out)))); have n3_ := Aside0.mk (below_step (by repeat (first | (with_reducible first | exact HB.out | apply below_alloc | apply pw_below_drewN | apply below_drew1) | exact HB.out)) hb); clear HO_7; clear HO_9; clear HB; have HO_7 := n0_; have HO_9 := n1_; have HO325 := n2_; have HB := n3_; clear n0_ n1_ n2_ n3_; (try clear hb); (try clear hb2); (try clear hk); (try clear hi); (try clear ho0); obtain ⟨Ao30, co30, eo30⟩ := Kd.S_slice HO325.out; subst eo30) | (go_at_call 31; (with_reducible refine (ontimeref44_Response.calls k1 _ _ t323 x60_1 t326 t327 _ ?side1 ?side2 A24.out).mono ?_); (case side1 => repeat (first | exact (Kd.S_reads' HO325.out).2.2 | (with_reducible refine Kd.C_alloc ?_ _) | (with_reducible refine Kd.C_drewN ?_ _) | (with_reducible refine Kd.C_drew ?_))); (case side2 => exact (Kd.S_reads' HO325.out).2.1); rintro e w31 ⟨rfl, hb⟩; have n0_ := Aside0.mk (Kd.R_below (by (with_reducible repeat (first | apply Kd.R_alloc | apply Kd.R_drewN | apply Kd.R_drew)); exact HO_7.out) hb); have n1_ := Aside0.mk (Kd.R_below (by (with_reducible repeat (first | apply Kd.R_alloc | apply Kd.R_drewN | apply Kd.R_drew)); exact HO_9.out) hb); have n2_ := Aside0.mk (Kd.S_below (by (with_reducible repeat (first | apply Kd.S_alloc | apply Kd.S_drewN | apply Kd.S_drew)); exact HO325.out) hb); have n3_ := Aside0.mk (below_step (by repeat (first | (with_reducible first | exact HB.out | apply below_alloc | apply pw_below_drewN | apply below_drew1) | exact HB.out)) hb); clear HO_7; clear HO_9; clear HO325; clear HB; have HO_7 := n0_; have HO_9 := n1_; have HO325 := n2_; have HB := n3_; clear n0_ n1_ n2_ n3_; (try clear hb); (try clear hb2); (try clear hk); (try clear hi); have p27 : 0 ≤ (x60_1 : Int) := of_decide_eq_true (by first | (with_reducible assumption) | assumption); have q27 : (x60_1 : Int) < ((x9_1.length : Int) : Int) := of_decide_eq_true (by first | (with_reducible assumption) | assumption); obtain ⟨go27, co27, eo27, gb27, gl27, cl27, HG27⟩ := Kd.R_form HO_9.out (by omega); (first | cases eo27 | (injection eo27 with ea_ en_ ec_; (first | subst ea_ | (injection ea_ with ea_; subst ea_)); subst ec_; clear en_)); have GB27 := Aside0.mk gb27; have GG27 := Aside0.mk HG27; clear gb27 gl27 HG27; obtain ⟨hx27_0, hf27_0⟩ := Kd.R_celln 0 HO_9.out (x60_1 : Int) p27 q27; replace p27 := eq_true p27; replace q27 := eq_true q27; obtain ⟨hy32_, hz32_⟩ := Kd.R_celln 0 HO_9.out (x60_1 : Int) (of_decide_eq_true (by first | (with_reducible assumption) | assumption)) (of_decide_eq_true (by first | (with_reducible assumption) | assumption)); have HP32 := Kd.R_putg HO_9.out (x60_1 : Int) t326) | ((with_reducible refine gate_store (t := 3) (p := 73) rfl ?_); (try (rw [drewN_self w31]; generalize hq_ : World.drewN w31 _ = w31; have n0_ := Aside0.mk (Kd.R_at hq_ HO_7.out); have n1_ := Aside0.mk (Kd.R_at hq_ HO_9.out); have n2_ := Aside0.mk (Kd.S_at hq_ HO325.out); have n3_ := Aside0.mk (below_at hq_ HB.out); clear hq_ HO_7 HO_9 HO325 HB; have HO_7 := n0_; have HO_9 := n1_; have HO325 := n2_; have HB := n3_; clear n0_ n1_ n2_ n3_; (try (obtain ⟨hy32_, hz32_⟩ := Kd.R_celln 0 HO_9.out (x60_1 : Int) (of_decide_eq_true (by first | (with_reducible assumption) | assumption)) (of_decide_eq_true (by first | (with_reducible assumption) | assumption)))); (try (have HP32 := Kd.R_putg HO_9.out (x60_1 : Int) t326)))); refine store_event (t := 3) (p := 73) (v := ?vo_w33) (w1 := (w31.setCell ⟨go27, (x60_1 : Int).toNat, none⟩ (.int .i64 t326))) ?hg ?ho ?hn ?hr ?_; (case ho => rfl); (case hg => rfl); (case hn => rfl); (case hr => first | (go_simp; done) | (go_simp; rfl)); intro w33 hw; have hg : w31.grownBy w33 (some go27) := (by rw [hw]; exact HP32.2); have hp_ : Kd.R (Kd.int .i64) 3 w33 w.heap.size (fun k_ => some k_ ≠ (v316 : Value).ownBlock) (.slice (some ⟨go27, 0, none⟩) x9_1.length co27) y328 := (by rw [hw, Ny328.out]; exact HP32.1); clear HP32; have n0_ := Aside0.mk (Kd.R_after (v := (.slice (some ⟨go27, 0, none⟩) x9_1.length co27)) (v1 := (.slice (some ⟨go27, 0, none⟩) x9_1.length co27)) (ok := (fun _ => True)) (by (with_reducible repeat (first | apply Kd.R_alloc | apply Kd.R_drewN | apply Kd.R_drew)); exact Kd.R_mono HO_7.out (fun _ hk => ⟨trivial, hk⟩)) hg (.inl rfl)); have n1_ := Aside0.mk (hp_); have n2_ := Aside0.mk (Kd.S_over' (v := (.slice (some ⟨go27, 0, none⟩) x9_1.length co27)) (by (with_reducible repeat (first | apply Kd.S_alloc | apply Kd.S_drewN | apply Kd.S_drew)); exact HO325.out) (Kd.R_typed HO_9.out) (by decide) hg); have n3_ := Aside0.mk ((by rw [hw]; exact below_set (HB.out) GB27.out : Below w.heap.size w w33)); clear HO_7; clear HO_9; clear HO325; clear HB; have HO_7 := n0_; have HO_9 := n1_; have HO325 := n2_; have HB := n3_; clear n0_ n1_ n2_ n3_; clear hg hw hp_)); try go_wp2_with (first | (go_at_call 27; (with_reducible refine (ontimelaw44_plain.calls k1 _ _ l0 t323 _ ?side1 ?side2 A23.out).mono ?_); (case side1 => repeat (first | exact (Kd.C_below HR0.out HB.out) | (with_reducible refine Kd.C_alloc ?_ _) | (with_reducible refine Kd.C_drewN ?_ _) | (with_reducible refine Kd.C_drew ?_))); (case side2 => exact HC0.out); rintro e w29 ⟨v324, rfl, ho0, hb⟩; have n0_ := Aside0.mk (Kd.R_below (by (with_reducible repeat (first | apply Kd.R_alloc | apply Kd.R_drewN | apply Kd.R_drew)); exact HO_7.out) hb); have n1_ := Aside0.mk (Kd.R_below (by (with_reducible repeat (first | apply Kd.R_alloc | apply Kd.R_drewN | apply Kd.R_drew)); exact HO_9.out) hb); have n2_ := Aside0.mk (Kd.S_lower ho0 (below_size (by repeat (first | (with_reducible first | exact HB.out | apply below_alloc | apply pw_below_drewN | apply below_drew1) | exact HB.out)))); have n3_ := Aside0.mk (below_step (by repeat (first | (with_reducible first | exact HB.out | apply below_alloc | apply pw_below_drewN | apply below_drew1) | exact HB.out)) hb); clear HO_7; clear HO_9; clear HB; have HO_7 := n0_; have HO_9 := n1_; have HO325 := n2_; have HB := n3_; clear n0_ n1_ n2_ n3_; (try clear hb); (try clear hb2); (try clear hk); (try clear hi); (try clear ho0); obtain ⟨Ao30, co30, eo30⟩ := Kd.S_slice HO325.out; subst eo30) | (go_at_call 31; (with_reducible refine (ontimeref44_Response.calls k1 _ _ t323 x60_1 t326 t327 _ ?side1 ?side2 A24.out).mono ?_); (case side1 => repeat (first | exact (Kd.S_reads' HO325.out).2.2 | (with_reducible refine Kd.C_alloc ?_ _) | (with_reducible refine Kd.C_drewN ?_ _) | (with_reducible refine Kd.C_drew ?_))); (case side2 => exact (Kd.S_reads' HO325.out).2.1); rintro e w31 ⟨rfl, hb⟩; have n0_ := Aside0.mk (Kd.R_below (by (with_reducible repeat (first | apply Kd.R_alloc | apply Kd.R_drewN | apply Kd.R_drew)); exact HO_7.out) hb); have n1_ := Aside0.mk (Kd.R_below (by (with_reducible repeat (first | apply Kd.R_alloc | apply Kd.R_drewN | apply Kd.R_drew)); exact HO_9.out) hb); have n2_ := Aside0.mk (Kd.S_below (by (with_reducible repeat (first | apply Kd.S_alloc | apply Kd.S_drewN | apply Kd.S_drew)); exact HO325.out) hb); have n3_ := Aside0.mk (below_step (by repeat (first | (with_reducible first | exact HB.out | apply below_alloc | apply pw_below_drewN | apply below_drew1) | exact HB.out)) hb); clear HO_7; clear HO_9; clear HO325; clear HB; have HO_7 := n0_; have HO_9 := n1_; have HO325 := n2_; have HB := n3_; clear n0_ n1_ n2_ n3_; (try clear hb); (try clear hb2); (try clear hk); (try clear hi); have p27 : 0 ≤ (x60_1 : Int) := of_decide_eq_true (by first | (with_reducible assumption) | assumption); have q27 : (x60_1 : Int) < ((x9_1.length : Int) : Int) := of_decide_eq_true (by first | (with_reducible assumption) | assumption); obtain ⟨go27, co27, eo27, gb27, gl27, cl27, HG27⟩ := Kd.R_form HO_9.out (by omega); (first | cases eo27 | (injection eo27 with ea_ en_ ec_; (first | subst ea_ | (injection ea_ with ea_; subst ea_)); subst ec_; clear en_)); have GB27 := Aside0.mk gb27; have GG27 := Aside0.mk HG27; clear gb27 gl27 HG27; obtain ⟨hx27_0, hf27_0⟩ := Kd.R_celln 0 HO_9.out (x60_1 : Int) p27 q27; replace p27 := eq_true p27; replace q27 := eq_true q27; obtain ⟨hy32_, hz32_⟩ := Kd.R_celln 0 HO_9.out (x60_1 : Int) (of_decide_eq_true (by first | (with_reducible assumption) | assumption)) (of_decide_eq_true (by first | (with_reducible assumption) | assumption)); have HP32 := Kd.R_putg HO_9.out (x60_1 : Int) t326) | ((with_reducible refine gate_store (t := 3) (p := 73) rfl ?_); (try (rw [drewN_self w31]; generalize hq_ : World.drewN w31 _ = w31; have n0_ := Aside0.mk (Kd.R_at hq_ HO_7.out); have n1_ := Aside0.mk (Kd.R_at hq_ HO_9.out); have n2_ := Aside0.mk (Kd.S_at hq_ HO325.out); have n3_ := Aside0.mk (below_at hq_ HB.out); clear hq_ HO_7 HO_9 HO325 HB; have HO_7 := n0_; have HO_9 := n1_; have HO325 := n2_; have HB := n3_; clear n0_ n1_ n2_ n3_; (try (obtain ⟨hy32_, hz32_⟩ := Kd.R_celln 0 HO_9.out (x60_1 : Int) (of_decide_eq_true (by first | (with_reducible assumption) | assumption)) (of_decide_eq_true (by first | (with_reducible assumption) | assumption)))); (try (have HP32 := Kd.R_putg HO_9.out (x60_1 : Int) t326)))); refine store_event (t := 3) (p := 73) (v := ?vo_w33) (w1 := (w31.setCell ⟨go27, (x60_1 : Int).toNat, none⟩ (.int .i64 t326))) ?hg ?ho ?hn ?hr ?_; (case ho => rfl); (case hg => rfl); (case hn => rfl); (case hr => first | (go_simp; done) | (go_simp; rfl)); intro w33 hw; have hg : w31.grownBy w33 (some go27) := (by rw [hw]; exact HP32.2); have hp_ : Kd.R (Kd.int .i64) 3 w33 w.heap.size (fun k_ => some k_ ≠ (v316 : Value).ownBlock) (.slice (some ⟨go27, 0, none⟩) x9_1.length co27) y328 := (by rw [hw, Ny328.out]; exact HP32.1); clear HP32; have n0_ := Aside0.mk (Kd.R_after (v := (.slice (some ⟨go27, 0, none⟩) x9_1.length co27)) (v1 := (.slice (some ⟨go27, 0, none⟩) x9_1.length co27)) (ok := (fun _ => True)) (by (with_reducible repeat (first | apply Kd.R_alloc | apply Kd.R_drewN | apply Kd.R_drew)); exact Kd.R_mono HO_7.out (fun _ hk => ⟨trivial, hk⟩)) hg (.inl rfl)); have n1_ := Aside0.mk (hp_); have n2_ := Aside0.mk (Kd.S_over' (v := (.slice (some ⟨go27, 0, none⟩) x9_1.length co27)) (by (with_reducible repeat (first | apply Kd.S_alloc | apply Kd.S_drewN | apply Kd.S_drew)); exact HO325.out) (Kd.R_typed HO_9.out) (by decide) hg); have n3_ := Aside0.mk ((by rw [hw]; exact below_set (HB.out) GB27.out : Below w.heap.size w w33)); clear HO_7; clear HO_9; clear HO325; clear HB; have HO_7 := n0_; have HO_9 := n1_; have HO325 := n2_; have HB := n3_; clear n0_ n1_ n2_ n3_; clear hg hw hp_)))
                        go_roundg k1
                        case measure => have := HK1.out; omega
                        case rel => exact ⟨(y328), (true), (wrap64 (x60_1 + 1)), (by first | rfl | (simp; done) | (simp [*]; done)), (by first | rfl | (simp; done) | (simp [*]; done)), H', ⟨by have := HK1.out; omega⟩, ⟨by (with_reducible repeat (first | apply Kd.R_alloc | apply Kd.R_drewN | apply Kd.R_drew)); exact Kd.R_mono HO_7.out (fun _ hk => hk.2)⟩, ⟨by (with_reducible repeat (first | apply Kd.R_alloc | apply Kd.R_drewN | apply Kd.R_drew)); exact HO_9.out⟩, ⟨by repeat (first | (with_reducible first | exact HB.out | apply below_alloc | apply pw_below_drewN | apply below_drew1) | exact HB.out)⟩⟩
                      · replace c28 := Bool.eq_false_iff.mpr c28
                        subst c28
                        have H1 : (ontimelaw44_ResponseTimes.l0 k1 l0 a1 t312 t313 t314 t315 y328 (!t327) (l0.length : Int) (wrap64 (x60_1 + 1))) = some r := by rw [if_neg (show ¬ (false = true) by decide)] at H; exact H
                        clear H
                        have H := H1
                        clear H1
                        have H' := Aside0.mk H
                        clear H
                        go_wp2_with (first | (go_at_call 27; (with_reducible refine (ontimelaw44_plain.calls k1 _ _ l0 t323 _ ?side1 ?side2 A23.out).mono ?_); (case side1 => repeat (first | exact (Kd.C_below HR0.out HB.out) | (with_reducible refine Kd.C_alloc ?_ _) | (with_reducible refine Kd.C_drewN ?_ _) | (with_reducible refine Kd.C_drew ?_))); (case side2 => exact HC0.out); rintro e w34 ⟨v324, rfl, ho0, hb⟩; have n0_ := Aside0.mk (Kd.R_below (by (with_reducible repeat (first | apply Kd.R_alloc | apply Kd.R_drewN | apply Kd.R_drew)); exact HO_7.out) hb); have n1_ := Aside0.mk (Kd.R_below (by (with_reducible repeat (first | apply Kd.R_alloc | apply Kd.R_drewN | apply Kd.R_drew)); exact HO_9.out) hb); have n2_ := Aside0.mk (Kd.S_lower ho0 (below_size (by repeat (first | (with_reducible first | exact HB.out | apply below_alloc | apply pw_below_drewN | apply below_drew1) | exact HB.out)))); have n3_ := Aside0.mk (below_step (by repeat (first | (with_reducible first | exact HB.out | apply below_alloc | apply pw_below_drewN | apply below_drew1) | exact HB.out)) hb); clear HO_7; clear HO_9; clear HB; have HO_7 := n0_; have HO_9 := n1_; have HO325 := n2_; have HB := n3_; clear n0_ n1_ n2_ n3_; (try clear hb); (try clear hb2); (try clear hk); (try clear hi); (try clear ho0); obtain ⟨Ao35, co35, eo35⟩ := Kd.S_slice HO325.out; subst eo35) | (go_at_call 31; (with_reducible refine (ontimeref44_Response.calls k1 _ _ t323 x60_1 t326 t327 _ ?side1 ?side2 A24.out).mono ?_); (case side1 => repeat (first | exact (Kd.S_reads' HO325.out).2.2 | (with_reducible refine Kd.C_alloc ?_ _) | (with_reducible refine Kd.C_drewN ?_ _) | (with_reducible refine Kd.C_drew ?_))); (case side2 => exact (Kd.S_reads' HO325.out).2.1); rintro e w36 ⟨rfl, hb⟩; have n0_ := Aside0.mk (Kd.R_below (by (with_reducible repeat (first | apply Kd.R_alloc | apply Kd.R_drewN | apply Kd.R_drew)); exact HO_7.out) hb); have n1_ := Aside0.mk (Kd.R_below (by (with_reducible repeat (first | apply Kd.R_alloc | apply Kd.R_drewN | apply Kd.R_drew)); exact HO_9.out) hb); have n2_ := Aside0.mk (Kd.S_below (by (with_reducible repeat (first | apply Kd.S_alloc | apply Kd.S_drewN | apply Kd.S_drew)); exact HO325.out) hb); have n3_ := Aside0.mk (below_step (by repeat (first | (with_reducible first | exact HB.out | apply below_alloc | apply pw_below_drewN | apply below_drew1) | exact HB.out)) hb); clear HO_7; clear HO_9; clear HO325; clear HB; have HO_7 := n0_; have HO_9 := n1_; have HO325 := n2_; have HB := n3_; clear n0_ n1_ n2_ n3_; (try clear hb); (try clear hb2); (try clear hk); (try clear hi); have p27 : 0 ≤ (x60_1 : Int) := of_decide_eq_true (by first | (with_reducible assumption) | assumption); have q27 : (x60_1 : Int) < ((x9_1.length : Int) : Int) := of_decide_eq_true (by first | (with_reducible assumption) | assumption); obtain ⟨go27, co27, eo27, gb27, gl27, cl27, HG27⟩ := Kd.R_form HO_9.out (by omega); (first | cases eo27 | (injection eo27 with ea_ en_ ec_; (first | subst ea_ | (injection ea_ with ea_; subst ea_)); subst ec_; clear en_)); have GB27 := Aside0.mk gb27; have GG27 := Aside0.mk HG27; clear gb27 gl27 HG27; obtain ⟨hx27_0, hf27_0⟩ := Kd.R_celln 0 HO_9.out (x60_1 : Int) p27 q27; replace p27 := eq_true p27; replace q27 := eq_true q27; obtain ⟨hy37_, hz37_⟩ := Kd.R_celln 0 HO_9.out (x60_1 : Int) (of_decide_eq_true (by first | (with_reducible assumption) | assumption)) (of_decide_eq_true (by first | (with_reducible assumption) | assumption)); have HP37 := Kd.R_putg HO_9.out (x60_1 : Int) t326) | ((with_reducible refine gate_store (t := 3) (p := 73) rfl ?_); (try (rw [drewN_self w36]; generalize hq_ : World.drewN w36 _ = w36; have n0_ := Aside0.mk (Kd.R_at hq_ HO_7.out); have n1_ := Aside0.mk (Kd.R_at hq_ HO_9.out); have n2_ := Aside0.mk (Kd.S_at hq_ HO325.out); have n3_ := Aside0.mk (below_at hq_ HB.out); clear hq_ HO_7 HO_9 HO325 HB; have HO_7 := n0_; have HO_9 := n1_; have HO325 := n2_; have HB := n3_; clear n0_ n1_ n2_ n3_; (try (obtain ⟨hy37_, hz37_⟩ := Kd.R_celln 0 HO_9.out (x60_1 : Int) (of_decide_eq_true (by first | (with_reducible assumption) | assumption)) (of_decide_eq_true (by first | (with_reducible assumption) | assumption)))); (try (have HP37 := Kd.R_putg HO_9.out (x60_1 : Int) t326)))); refine store_event (t := 3) (p := 73) (v := ?vo_w38) (w1 := (w36.setCell ⟨go27, (x60_1 : Int).toNat, none⟩ (.int .i64 t326))) ?hg ?ho ?hn ?hr ?_; (case ho => rfl); (case hg => rfl); (case hn => rfl); (case hr => first | (go_simp; done) | (go_simp; rfl)); intro w38 hw; have hg : w36.grownBy w38 (some go27) := (by rw [hw]; exact HP37.2); have hp_ : Kd.R (Kd.int .i64) 3 w38 w.heap.size (fun k_ => some k_ ≠ (v316 : Value).ownBlock) (.slice (some ⟨go27, 0, none⟩) x9_1.length co27) y328 := (by rw [hw, Ny328.out]; exact HP37.1); clear HP37; have n0_ := Aside0.mk (Kd.R_after (v := (.slice (some ⟨go27, 0, none⟩) x9_1.length co27)) (v1 := (.slice (some ⟨go27, 0, none⟩) x9_1.length co27)) (ok := (fun _ => True)) (by (with_reducible repeat (first | apply Kd.R_alloc | apply Kd.R_drewN | apply Kd.R_drew)); exact Kd.R_mono HO_7.out (fun _ hk => ⟨trivial, hk⟩)) hg (.inl rfl)); have n1_ := Aside0.mk (hp_); have n2_ := Aside0.mk (Kd.S_over' (v := (.slice (some ⟨go27, 0, none⟩) x9_1.length co27)) (by (with_reducible repeat (first | apply Kd.S_alloc | apply Kd.S_drewN | apply Kd.S_drew)); exact HO325.out) (Kd.R_typed HO_9.out) (by decide) hg); have n3_ := Aside0.mk ((by rw [hw]; exact below_set (HB.out) GB27.out : Below w.heap.size w w38)); clear HO_7; clear HO_9; clear HO325; clear HB; have HO_7 := n0_; have HO_9 := n1_; have HO325 := n2_; have HB := n3_; clear n0_ n1_ n2_ n3_; clear hg hw hp_))
                        repeat (go_quiet (first | (go_at_call 27; (with_reducible refine (ontimelaw44_plain.calls k1 _ _ l0 t323 _ ?side1 ?side2 A23.out).mono ?_); (case side1 => repeat (first | exact (Kd.C_below HR0.out HB.out) | (with_reducible refine Kd.C_alloc ?_ _) | (with_reducible refine Kd.C_drewN ?_ _) | (with_reducible refine Kd.C_drew ?_))); (case side2 => exact HC0.out); rintro e w34 ⟨v324, rfl, ho0, hb⟩; have n0_ := Aside0.mk (Kd.R_below (by (with_reducible repeat (first | apply Kd.R_alloc | apply Kd.R_drewN | apply Kd.R_drew)); exact HO_7.out) hb); have n1_ := Aside0.mk (Kd.R_below (by (with_reducible repeat (first | apply Kd.R_alloc | apply Kd.R_drewN | apply Kd.R_drew)); exact HO_9.out) hb); have n2_ := Aside0.mk (Kd.S_lower ho0 (below_size (by repeat (first | (with_reducible first | exact HB.out | apply below_alloc | apply pw_below_drewN | apply below_drew1) | exact HB.out)))); have n3_ := Aside0.mk (below_step (by repeat (first | (with_reducible first | exact HB.out | apply below_alloc | apply pw_below_drewN | apply below_drew1) | exact HB.out)) hb); clear HO_7; clear HO_9; clear HB; have HO_7 := n0_; have HO_9 := n1_; have HO325 := n2_; have HB := n3_; clear n0_ n1_ n2_ n3_; (try clear hb); (try clear hb2); (try clear hk); (try clear hi); (try clear ho0); obtain ⟨Ao35, co35, eo35⟩ := Kd.S_slice HO325.out; subst eo35) | (go_at_call 31; (with_reducible refine (ontimeref44_Response.calls k1 _ _ t323 x60_1 t326 t327 _ ?side1 ?side2 A24.out).mono ?_); (case side1 => repeat (first | exact (Kd.S_reads' HO325.out).2.2 | (with_reducible refine Kd.C_alloc ?_ _) | (with_reducible refine Kd.C_drewN ?_ _) | (with_reducible refine Kd.C_drew ?_))); (case side2 => exact (Kd.S_reads' HO325.out).2.1); rintro e w36 ⟨rfl, hb⟩; have n0_ := Aside0.mk (Kd.R_below (by (with_reducible repeat (first | apply Kd.R_alloc | apply Kd.R_drewN | apply Kd.R_drew)); exact HO_7.out) hb); have n1_ := Aside0.mk (Kd.R_below (by (with_reducible repeat (first | apply Kd.R_alloc | apply Kd.R_drewN | apply Kd.R_drew)); exact HO_9.out) hb); have n2_ := Aside0.mk (Kd.S_below (by (with_reducible repeat (first | apply Kd.S_alloc | apply Kd.S_drewN | apply Kd.S_drew)); exact HO325.out) hb); have n3_ := Aside0.mk (below_step (by repeat (first | (with_reducible first | exact HB.out | apply below_alloc | apply pw_below_drewN | apply below_drew1) | exact HB.out)) hb); clear HO_7; clear HO_9; clear HO325; clear HB; have HO_7 := n0_; have HO_9 := n1_; have HO325 := n2_; have HB := n3_; clear n0_ n1_ n2_ n3_; (try clear hb); (try clear hb2); (try clear hk); (try clear hi); have p27 : 0 ≤ (x60_1 : Int) := of_decide_eq_true (by first | (with_reducible assumption) | assumption); have q27 : (x60_1 : Int) < ((x9_1.length : Int) : Int) := of_decide_eq_true (by first | (with_reducible assumption) | assumption); obtain ⟨go27, co27, eo27, gb27, gl27, cl27, HG27⟩ := Kd.R_form HO_9.out (by omega); (first | cases eo27 | (injection eo27 with ea_ en_ ec_; (first | subst ea_ | (injection ea_ with ea_; subst ea_)); subst ec_; clear en_)); have GB27 := Aside0.mk gb27; have GG27 := Aside0.mk HG27; clear gb27 gl27 HG27; obtain ⟨hx27_0, hf27_0⟩ := Kd.R_celln 0 HO_9.out (x60_1 : Int) p27 q27; replace p27 := eq_true p27; replace q27 := eq_true q27; obtain ⟨hy37_, hz37_⟩ := Kd.R_celln 0 HO_9.out (x60_1 : Int) (of_decide_eq_true (by first | (with_reducible assumption) | assumption)) (of_decide_eq_true (by first | (with_reducible assumption) | assumption)); have HP37 := Kd.R_putg HO_9.out (x60_1 : Int) t326) | ((with_reducible refine gate_store (t := 3) (p := 73) rfl ?_); (try (rw [drewN_self w36]; generalize hq_ : World.drewN w36 _ = w36; have n0_ := Aside0.mk (Kd.R_at hq_ HO_7.out); have n1_ := Aside0.mk (Kd.R_at hq_ HO_9.out); have n2_ := Aside0.mk (Kd.S_at hq_ HO325.out); have n3_ := Aside0.mk (below_at hq_ HB.out); clear hq_ HO_7 HO_9 HO325 HB; have HO_7 := n0_; have HO_9 := n1_; have HO325 := n2_; have HB := n3_; clear n0_ n1_ n2_ n3_; (try (obtain ⟨hy37_, hz37_⟩ := Kd.R_celln 0 HO_9.out (x60_1 : Int) (of_decide_eq_true (by first | (with_reducible assumption) | assumption)) (of_decide_eq_true (by first | (with_reducible assumption) | assumption)))); (try (have HP37 := Kd.R_putg HO_9.out (x60_1 : Int) t326)))); refine store_event (t := 3) (p := 73) (v := ?vo_w38) (w1 := (w36.setCell ⟨go27, (x60_1 : Int).toNat, none⟩ (.int .i64 t326))) ?hg ?ho ?hn ?hr ?_; (case ho => rfl); (case hg => rfl); (case hn => rfl); (case hr => first | (go_simp; done) | (go_simp; rfl)); intro w38 hw; have hg : w36.grownBy w38 (some go27) := (by rw [hw]; exact HP37.2); have hp_ : Kd.R (Kd.int .i64) 3 w38 w.heap.size (fun k_ => some k_ ≠ (v316 : Value).ownBlock) (.slice (some ⟨go27, 0, none⟩) x9_1.length co27) y328 := (by rw [hw, Ny328.out]; exact HP37.1); clear HP37; have n0_ := Aside0.mk (Kd.R_after (v := (.slice (some ⟨go27, 0, none⟩) x9_1.length co27)) (v1 := (.slice (some ⟨go27, 0, none⟩) x9_1.length co27)) (ok := (fun _ => True)) (by (with_reducible repeat (first | apply Kd.R_alloc | apply Kd.R_drewN | apply Kd.R_drew)); exact Kd.R_mono HO_7.out (fun _ hk => ⟨trivial, hk⟩)) hg (.inl rfl)); have n1_ := Aside0.mk (hp_); have n2_ := Aside0.mk (Kd.S_over' (v := (.slice (some ⟨go27, 0, none⟩) x9_1.length co27)) (by (with_reducible repeat (first | apply Kd.S_alloc | apply Kd.S_drewN | apply Kd.S_drew)); exact HO325.out) (Kd.R_typed HO_9.out) (by decide) hg); have n3_ := Aside0.mk ((by rw [hw]; exact below_set (HB.out) GB27.out : Below w.heap.size w w38)); clear HO_7; clear HO_9; clear HO325; clear HB; have HO_7 := n0_; have HO_9 := n1_; have HO325 := n2_; have HB := n3_; clear n0_ n1_ n2_ n3_; clear hg hw hp_)); try go_wp2_with (first | (go_at_call 27; (with_reducible refine (ontimelaw44_plain.calls k1 _ _ l0 t323 _ ?side1 ?side2 A23.out).mono ?_); (case side1 => repeat (first | exact (Kd.C_below HR0.out HB.out) | (with_reducible refine Kd.C_alloc ?_ _) | (with_reducible refine Kd.C_drewN ?_ _) | (with_reducible refine Kd.C_drew ?_))); (case side2 => exact HC0.out); rintro e w34 ⟨v324, rfl, ho0, hb⟩; have n0_ := Aside0.mk (Kd.R_below (by (with_reducible repeat (first | apply Kd.R_alloc | apply Kd.R_drewN | apply Kd.R_drew)); exact HO_7.out) hb); have n1_ := Aside0.mk (Kd.R_below (by (with_reducible repeat (first | apply Kd.R_alloc | apply Kd.R_drewN | apply Kd.R_drew)); exact HO_9.out) hb); have n2_ := Aside0.mk (Kd.S_lower ho0 (below_size (by repeat (first | (with_reducible first | exact HB.out | apply below_alloc | apply pw_below_drewN | apply below_drew1) | exact HB.out)))); have n3_ := Aside0.mk (below_step (by repeat (first | (with_reducible first | exact HB.out | apply below_alloc | apply pw_below_drewN | apply below_drew1) | exact HB.out)) hb); clear HO_7; clear HO_9; clear HB; have HO_7 := n0_; have HO_9 := n1_; have HO325 := n2_; have HB := n3_; clear n0_ n1_ n2_ n3_; (try clear hb); (try clear hb2); (try clear hk); (try clear hi); (try clear ho0); obtain ⟨Ao35, co35, eo35⟩ := Kd.S_slice HO325.out; subst eo35) | (go_at_call 31; (with_reducible refine (ontimeref44_Response.calls k1 _ _ t323 x60_1 t326 t327 _ ?side1 ?side2 A24.out).mono ?_); (case side1 => repeat (first | exact (Kd.S_reads' HO325.out).2.2 | (with_reducible refine Kd.C_alloc ?_ _) | (with_reducible refine Kd.C_drewN ?_ _) | (with_reducible refine Kd.C_drew ?_))); (case side2 => exact (Kd.S_reads' HO325.out).2.1); rintro e w36 ⟨rfl, hb⟩; have n0_ := Aside0.mk (Kd.R_below (by (with_reducible repeat (first | apply Kd.R_alloc | apply Kd.R_drewN | apply Kd.R_drew)); exact HO_7.out) hb); have n1_ := Aside0.mk (Kd.R_below (by (with_reducible repeat (first | apply Kd.R_alloc | apply Kd.R_drewN | apply Kd.R_drew)); exact HO_9.out) hb); have n2_ := Aside0.mk (Kd.S_below (by (with_reducible repeat (first | apply Kd.S_alloc | apply Kd.S_drewN | apply Kd.S_drew)); exact HO325.out) hb); have n3_ := Aside0.mk (below_step (by repeat (first | (with_reducible first | exact HB.out | apply below_alloc | apply pw_below_drewN | apply below_drew1) | exact HB.out)) hb); clear HO_7; clear HO_9; clear HO325; clear HB; have HO_7 := n0_; have HO_9 := n1_; have HO325 := n2_; have HB := n3_; clear n0_ n1_ n2_ n3_; (try clear hb); (try clear hb2); (try clear hk); (try clear hi); have p27 : 0 ≤ (x60_1 : Int) := of_decide_eq_true (by first | (with_reducible assumption) | assumption); have q27 : (x60_1 : Int) < ((x9_1.length : Int) : Int) := of_decide_eq_true (by first | (with_reducible assumption) | assumption); obtain ⟨go27, co27, eo27, gb27, gl27, cl27, HG27⟩ := Kd.R_form HO_9.out (by omega); (first | cases eo27 | (injection eo27 with ea_ en_ ec_; (first | subst ea_ | (injection ea_ with ea_; subst ea_)); subst ec_; clear en_)); have GB27 := Aside0.mk gb27; have GG27 := Aside0.mk HG27; clear gb27 gl27 HG27; obtain ⟨hx27_0, hf27_0⟩ := Kd.R_celln 0 HO_9.out (x60_1 : Int) p27 q27; replace p27 := eq_true p27; replace q27 := eq_true q27; obtain ⟨hy37_, hz37_⟩ := Kd.R_celln 0 HO_9.out (x60_1 : Int) (of_decide_eq_true (by first | (with_reducible assumption) | assumption)) (of_decide_eq_true (by first | (with_reducible assumption) | assumption)); have HP37 := Kd.R_putg HO_9.out (x60_1 : Int) t326) | ((with_reducible refine gate_store (t := 3) (p := 73) rfl ?_); (try (rw [drewN_self w36]; generalize hq_ : World.drewN w36 _ = w36; have n0_ := Aside0.mk (Kd.R_at hq_ HO_7.out); have n1_ := Aside0.mk (Kd.R_at hq_ HO_9.out); have n2_ := Aside0.mk (Kd.S_at hq_ HO325.out); have n3_ := Aside0.mk (below_at hq_ HB.out); clear hq_ HO_7 HO_9 HO325 HB; have HO_7 := n0_; have HO_9 := n1_; have HO325 := n2_; have HB := n3_; clear n0_ n1_ n2_ n3_; (try (obtain ⟨hy37_, hz37_⟩ := Kd.R_celln 0 HO_9.out (x60_1 : Int) (of_decide_eq_true (by first | (with_reducible assumption) | assumption)) (of_decide_eq_true (by first | (with_reducible assumption) | assumption)))); (try (have HP37 := Kd.R_putg HO_9.out (x60_1 : Int) t326)))); refine store_event (t := 3) (p := 73) (v := ?vo_w38) (w1 := (w36.setCell ⟨go27, (x60_1 : Int).toNat, none⟩ (.int .i64 t326))) ?hg ?ho ?hn ?hr ?_; (case ho => rfl); (case hg => rfl); (case hn => rfl); (case hr => first | (go_simp; done) | (go_simp; rfl)); intro w38 hw; have hg : w36.grownBy w38 (some go27) := (by rw [hw]; exact HP37.2); have hp_ : Kd.R (Kd.int .i64) 3 w38 w.heap.size (fun k_ => some k_ ≠ (v316 : Value).ownBlock) (.slice (some ⟨go27, 0, none⟩) x9_1.length co27) y328 := (by rw [hw, Ny328.out]; exact HP37.1); clear HP37; have n0_ := Aside0.mk (Kd.R_after (v := (.slice (some ⟨go27, 0, none⟩) x9_1.length co27)) (v1 := (.slice (some ⟨go27, 0, none⟩) x9_1.length co27)) (ok := (fun _ => True)) (by (with_reducible repeat (first | apply Kd.R_alloc | apply Kd.R_drewN | apply Kd.R_drew)); exact Kd.R_mono HO_7.out (fun _ hk => ⟨trivial, hk⟩)) hg (.inl rfl)); have n1_ := Aside0.mk (hp_); have n2_ := Aside0.mk (Kd.S_over' (v := (.slice (some ⟨go27, 0, none⟩) x9_1.length co27)) (by (with_reducible repeat (first | apply Kd.S_alloc | apply Kd.S_drewN | apply Kd.S_drew)); exact HO325.out) (Kd.R_typed HO_9.out) (by decide) hg); have n3_ := Aside0.mk ((by rw [hw]; exact below_set (HB.out) GB27.out : Below w.heap.size w w38)); clear HO_7; clear HO_9; clear HO325; clear HB; have HO_7 := n0_; have HO_9 := n1_; have HO325 := n2_; have HB := n3_; clear n0_ n1_ n2_ n3_; clear hg hw hp_)))
                        go_roundg k1
                        case measure => have := HK1.out; omega
                        case rel => exact ⟨(y328), (!t327), (wrap64 (x60_1 + 1)), (by first | rfl | (simp; done) | (simp [*]; done)), (by first | rfl | (simp; done) | (simp [*]; done)), H', ⟨by have := HK1.out; omega⟩, ⟨by (with_reducible repeat (first | apply Kd.R_alloc | apply Kd.R_drewN | apply Kd.R_drew)); exact Kd.R_mono HO_7.out (fun _ hk => hk.2)⟩, ⟨by (with_reducible repeat (first | apply Kd.R_alloc | apply Kd.R_drewN | apply Kd.R_drew)); exact HO_9.out⟩, ⟨by repeat (first | (with_reducible first | exact HB.out | apply below_alloc | apply pw_below_drewN | apply below_drew1) | exact HB.out)⟩⟩
                    · rw [if_neg c26] at H
                      exact absurd H (by simp)
                  · rw [if_neg c25] at H
                    exact absurd H (by simp)
                · rw [if_neg c22] at H
                  have c22b0 : decide (x60_1 < (l0.length : Int)) = false := decide_eq_false c22
                  clear c22
                  have HC39 := Aside0.mk H
                  clear H
                  go_upto_region 17 with (fail)
                  repeat (go_quiet (fail); go_upto_region 17 with (fail))
                  go_cut [95] (fun v95 wc => ∃ (kq : Nat) (x95_38 : Bool), v95 = .bool x95_38 ∧ Aside0 (ontimelaw44_ResponseTimes.j1 kq l0 a1 t312 t313 t314 x9_1 x10_1 x95_38 = some r) ∧ Aside0 (kq ≤ k1) ∧ Aside0 (Kd.R (Kd.int .i64) 3 wc w.heap.size (fun k_ => some k_ ≠ (v321 : Value).ownBlock) v316 t314) ∧ Aside0 (Kd.R (Kd.int .i64) 3 wc w.heap.size (fun k_ => some k_ ≠ (v316 : Value).ownBlock) v321 x9_1) ∧ Aside0 (Below w.heap.size w wc))
                  case first =>
                    have H := HC39.out
                    clear HC39
                    by_cases c40 : (x10_1 != (t315 == 21)) = true
                    · rw [if_pos c40] at H
                      have c40b0 : (x10_1 != (t315 == 21)) = true := c40
                      (try (have c40b1 : decide (x10_1 = (t315 == 21)) = false := by simpa using c40))
                      (try (have c40b2 : (x10_1 == (t315 == 21)) = false := by simpa using c40))
                      (try (have c40b3 : ¬ (x10_1 = (t315 == 21)) := by simpa using c40))
                      clear c40
                      (first | rw [c40b0] | (simp only [i64_w, i32_w]; rw [c40b0]) | skip)
                      have H' := Aside0.mk H
                      clear H
                      go_wp2
                      repeat (go_quiet (fail); try go_wp2)
                      go_meet
                      case rel => exact ⟨_, (true), (by first | rfl | (simp; done) | (simp [*]; done)), H', ⟨by have := HK1.out; first | omega | exact Nat.le_refl _⟩, ⟨by (with_reducible repeat (first | apply Kd.R_alloc | apply Kd.R_drewN | apply Kd.R_drew)); exact HO_7.out⟩, ⟨by (with_reducible repeat (first | apply Kd.R_alloc | apply Kd.R_drewN | apply Kd.R_drew)); exact HO_9.out⟩, ⟨by repeat (first | (with_reducible first | exact HB.out | apply below_alloc | apply pw_below_drewN | apply below_drew1) | exact HB.out)⟩⟩
                    · rw [if_neg c40] at H
                      have c40b0 : (x10_1 != (t315 == 21)) = false := by simpa using c40
                      (try (have c40b1 : decide (x10_1 = (t315 == 21)) = true := by simpa using c40))
                      (try (have c40b2 : (x10_1 == (t315 == 21)) = true := by simpa using c40))
                      clear c40
                      (first | rw [c40b0] | (simp only [i64_w, i32_w]; rw [c40b0]) | skip)
                      by_cases c41 : (x10_1 == (t315 == 0)) = true
                      · rw [if_pos c41] at H
                        have c41b0 : (x10_1 == (t315 == 0)) = true := c41
                        (try (have c41b1 : decide (x10_1 = (t315 == 0)) = true := by simpa using c41))
                        (try (have c41b2 : (x10_1 == (t315 == 0)) = true := by simpa using c41))
                        clear c41
                        have H' := Aside0.mk H
                        clear H
                        go_wp2
                        repeat (go_quiet (fail); try go_wp2)
                        go_meet
                        case rel => exact ⟨_, (true), (by first | rfl | (simp; done) | (simp [*]; done)), H', ⟨by have := HK1.out; first | omega | exact Nat.le_refl _⟩, ⟨by (with_reducible repeat (first | apply Kd.R_alloc | apply Kd.R_drewN | apply Kd.R_drew)); exact HO_7.out⟩, ⟨by (with_reducible repeat (first | apply Kd.R_alloc | apply Kd.R_drewN | apply Kd.R_drew)); exact HO_9.out⟩, ⟨by repeat (first | (with_reducible first | exact HB.out | apply below_alloc | apply pw_below_drewN | apply below_drew1) | exact HB.out)⟩⟩
                      · rw [if_neg c41] at H
                        have c41b0 : (x10_1 == (t315 == 0)) = false := by simpa using c41
                        (try (have c41b1 : decide (x10_1 = (t315 == 0)) = false := by simpa using c41))
                        (try (have c41b2 : (x10_1 == (t315 == 0)) = false := by simpa using c41))
                        (try (have c41b3 : ¬ (x10_1 = (t315 == 0)) := by simpa using c41))
                        clear c41
                        replace H := Option.bind_eq_some_iff.mp H
                        obtain ⟨t329, A420, H⟩ := H
                        replace H : (ontimelaw44_ResponseTimes.j1 k1 l0 a1 t312 t313 t314 x9_1 x10_1 (t329 == x10_1)) = some r := H
                        have A42 := Aside0.mk A420
                        clear A420
                        have H' := Aside0.mk H
                        clear H
                        go_wp2_with (first | (go_at_call 30; (with_reducible refine (response_Schedulable.calls k1 _ _ l0 t329 _ ?side1 ?side2 A42.out).mono ?_); (case side1 => repeat (first | exact (Kd.C_below HR0.out HB.out) | (with_reducible refine Kd.C_alloc ?_ _) | (with_reducible refine Kd.C_drewN ?_ _) | (with_reducible refine Kd.C_drew ?_))); (case side2 => exact HC0.out); rintro e w43 ⟨rfl, hb⟩; have n0_ := Aside0.mk (Kd.R_below (by (with_reducible repeat (first | apply Kd.R_alloc | apply Kd.R_drewN | apply Kd.R_drew)); exact HO_7.out) hb); have n1_ := Aside0.mk (Kd.R_below (by (with_reducible repeat (first | apply Kd.R_alloc | apply Kd.R_drewN | apply Kd.R_drew)); exact HO_9.out) hb); have n2_ := Aside0.mk (below_step (by repeat (first | (with_reducible first | exact HB.out | apply below_alloc | apply pw_below_drewN | apply below_drew1) | exact HB.out)) hb); clear HO_7; clear HO_9; clear HB; have HO_7 := n0_; have HO_9 := n1_; have HB := n2_; clear n0_ n1_ n2_; (try clear hb); (try clear hb2); (try clear hk); (try clear hi)))
                        repeat (go_quiet (first | (go_at_call 30; (with_reducible refine (response_Schedulable.calls k1 _ _ l0 t329 _ ?side1 ?side2 A42.out).mono ?_); (case side1 => repeat (first | exact (Kd.C_below HR0.out HB.out) | (with_reducible refine Kd.C_alloc ?_ _) | (with_reducible refine Kd.C_drewN ?_ _) | (with_reducible refine Kd.C_drew ?_))); (case side2 => exact HC0.out); rintro e w43 ⟨rfl, hb⟩; have n0_ := Aside0.mk (Kd.R_below (by (with_reducible repeat (first | apply Kd.R_alloc | apply Kd.R_drewN | apply Kd.R_drew)); exact HO_7.out) hb); have n1_ := Aside0.mk (Kd.R_below (by (with_reducible repeat (first | apply Kd.R_alloc | apply Kd.R_drewN | apply Kd.R_drew)); exact HO_9.out) hb); have n2_ := Aside0.mk (below_step (by repeat (first | (with_reducible first | exact HB.out | apply below_alloc | apply pw_below_drewN | apply below_drew1) | exact HB.out)) hb); clear HO_7; clear HO_9; clear HB; have HO_7 := n0_; have HO_9 := n1_; have HB := n2_; clear n0_ n1_ n2_; (try clear hb); (try clear hb2); (try clear hk); (try clear hi))); try go_wp2_with (first | (go_at_call 30; (with_reducible refine (response_Schedulable.calls k1 _ _ l0 t329 _ ?side1 ?side2 A42.out).mono ?_); (case side1 => repeat (first | exact (Kd.C_below HR0.out HB.out) | (with_reducible refine Kd.C_alloc ?_ _) | (with_reducible refine Kd.C_drewN ?_ _) | (with_reducible refine Kd.C_drew ?_))); (case side2 => exact HC0.out); rintro e w43 ⟨rfl, hb⟩; have n0_ := Aside0.mk (Kd.R_below (by (with_reducible repeat (first | apply Kd.R_alloc | apply Kd.R_drewN | apply Kd.R_drew)); exact HO_7.out) hb); have n1_ := Aside0.mk (Kd.R_below (by (with_reducible repeat (first | apply Kd.R_alloc | apply Kd.R_drewN | apply Kd.R_drew)); exact HO_9.out) hb); have n2_ := Aside0.mk (below_step (by repeat (first | (with_reducible first | exact HB.out | apply below_alloc | apply pw_below_drewN | apply below_drew1) | exact HB.out)) hb); clear HO_7; clear HO_9; clear HB; have HO_7 := n0_; have HO_9 := n1_; have HB := n2_; clear n0_ n1_ n2_; (try clear hb); (try clear hb2); (try clear hk); (try clear hi))))
                        go_meet
                        case rel => exact ⟨_, ((t329 == x10_1)), (by first | rfl | (simp; done) | (simp [*]; done)), H', ⟨by have := HK1.out; first | omega | exact Nat.le_refl _⟩, ⟨by (with_reducible repeat (first | apply Kd.R_alloc | apply Kd.R_drewN | apply Kd.R_drew)); exact HO_7.out⟩, ⟨by (with_reducible repeat (first | apply Kd.R_alloc | apply Kd.R_drewN | apply Kd.R_drew)); exact HO_9.out⟩, ⟨by repeat (first | (with_reducible first | exact HB.out | apply below_alloc | apply pw_below_drewN | apply below_drew1) | exact HB.out)⟩⟩
                  case rest =>
                    clear HC39
                    try clear c1
                    try clear c2
                    try clear p2
                    try clear q2
                    try clear hx2
                    try clear hf2
                    try clear c4
                    try clear c6
                    try clear p6
                    try clear c10
                    try clear c12
                    try clear c13
                    try clear c13b0
                    try clear c13b1
                    try clear c14
                    try clear c14b0
                    try clear c14b1
                    try clear c22
                    try clear c22b0
                    try clear c25
                    try clear c25b0
                    try clear c26
                    try clear c26b0
                    try clear p27
                    try clear q27
                    try clear hx27
                    try clear hf27
                    try clear c28
                    try clear c40
                    try clear c40b0
                    try clear c40b1
                    try clear c40b2
                    try clear c41
                    try clear c41b0
                    try clear c41b1
                    try clear c41b2
                    try clear hx27_0
                    try clear p2
                    try clear p27
                    try clear q27
                    obtain ⟨kq, x95_38, rfl, HA, HJ38, HO_7, HO_9, HB⟩ := hcut
                    cases kq with
                    | zero => exact absurd HA.out (by simp [ontimelaw44_ResponseTimes.j1])
                    | succ kj38 =>
                      have H := HA.out
                      clear HA
                      simp only [ontimelaw44_ResponseTimes.j1] at H
                      by_cases c44 : x95_38 = true
                      · subst c44
                        have H1 : (some false) = some r := by rw [if_pos rfl] at H; exact H
                        clear H
                        have H := H1
                        clear H1
                        obtain rfl := Option.some.inj H
                        go_wp2
                        repeat (go_quiet (fail); try go_wp2)
                        go_ret
                        exact ⟨by first | rfl | (simp [errW_none, errW_some] <;> rfl) | (simp [*, errW_none, errW_some] <;> rfl), by repeat (first | (with_reducible first | exact HB.out | apply below_alloc | apply pw_below_drewN | apply below_drew1) | exact HB.out)⟩
                      · replace c44 := Bool.eq_false_iff.mpr c44
                        subst c44
                        have H1 : (if x10_1 = true then (if (t314.length : Int) = 0 then (ontimelaw44_ResponseTimes.j2 kj38 l0 a1 t312 t313 t314 x9_1 false) else (ontimelaw44_ResponseTimes.j2 kj38 l0 a1 t312 t313 t314 x9_1 true)) else (ontimelaw44_ResponseTimes.j2 kj38 l0 a1 t312 t313 t314 x9_1 ((t314.length : Int) != (l0.length : Int)))) = some r := by rw [if_neg (show ¬ (false = true) by decide)] at H; exact H
                        clear H
                        have H := H1
                        clear H1
                        have HC45 := Aside0.mk H
                        clear H
                        go_upto_region 19 with (fail)
                        repeat (go_quiet (fail); go_upto_region 19 with (fail))
                        go_cut [112] (fun v112 wc => ∃ (kq : Nat) (x112_44 : Bool), v112 = .bool x112_44 ∧ Aside0 (ontimelaw44_ResponseTimes.j2 kq l0 a1 t312 t313 t314 x9_1 x112_44 = some r) ∧ Aside0 (kq ≤ kj38) ∧ Aside0 (Kd.R (Kd.int .i64) 3 wc w.heap.size (fun k_ => some k_ ≠ (v321 : Value).ownBlock) v316 t314) ∧ Aside0 (Kd.R (Kd.int .i64) 3 wc w.heap.size (fun k_ => some k_ ≠ (v316 : Value).ownBlock) v321 x9_1) ∧ Aside0 (Below w.heap.size w wc))
                        case first =>
                          have H := HC45.out
                          clear HC45
                          by_cases c46 : x10_1 = true
                          · subst c46
                            have H1 : (if (t314.length : Int) = 0 then (ontimelaw44_ResponseTimes.j2 kj38 l0 a1 t312 t313 t314 x9_1 false) else (ontimelaw44_ResponseTimes.j2 kj38 l0 a1 t312 t313 t314 x9_1 true)) = some r := by rw [if_pos rfl] at H; exact H
                            clear H
                            have H := H1
                            clear H1
                            by_cases c47 : (t314.length : Int) = 0
                            · rw [if_pos c47] at H
                              have c47b0 : ((t314.length : Int) == 0) = true := beq_iff_eq.mpr c47
                              have c47b1 : ((t314.length : Int) != 0) = false := bne_eq_false_iff_eq.mpr c47
                              clear c47
                              (first | rw [c47b0] | (simp only [i64_w, i32_w]; rw [c47b0]) | skip)
                              have H' := Aside0.mk H
                              clear H
                              obtain ⟨Ao48, co48, eo48⟩ := Kd.R_slice HO_7.out
                              subst eo48
                              go_wp2
                              repeat (go_quiet (fail); try go_wp2)
                              go_meet
                              case rel => exact ⟨_, (false), (by first | rfl | (simp; done) | (simp [*]; done)), H', ⟨by have := HK1.out; have := HJ38.out; first | omega | exact Nat.le_refl _⟩, ⟨by (with_reducible repeat (first | apply Kd.R_alloc | apply Kd.R_drewN | apply Kd.R_drew)); exact HO_7.out⟩, ⟨by (with_reducible repeat (first | apply Kd.R_alloc | apply Kd.R_drewN | apply Kd.R_drew)); exact HO_9.out⟩, ⟨by repeat (first | (with_reducible first | exact HB.out | apply below_alloc | apply pw_below_drewN | apply below_drew1) | exact HB.out)⟩⟩
                            · rw [if_neg c47] at H
                              have c47b0 : ((t314.length : Int) == 0) = false := beq_eq_false_iff_ne.mpr c47
                              have c47b1 : ((t314.length : Int) != 0) = true := bne_iff_ne.mpr c47
                              have c47b2 : ¬ (t314 = []) := fun h_ => c47 (by rw [h_]; rfl)
                              (first | rw [c47b0] | (simp only [i64_w, i32_w]; rw [c47b0]) | skip)
                              have H' := Aside0.mk H
                              clear H
                              obtain ⟨Ao49, co49, eo49⟩ := Kd.R_slice HO_7.out
                              subst eo49
                              go_wp2
                              repeat (go_quiet (fail); try go_wp2)
                              go_meet
                              case rel => exact ⟨_, (true), (by first | rfl | (simp; done) | (simp [*]; done)), H', ⟨by have := HK1.out; have := HJ38.out; first | omega | exact Nat.le_refl _⟩, ⟨by (with_reducible repeat (first | apply Kd.R_alloc | apply Kd.R_drewN | apply Kd.R_drew)); exact HO_7.out⟩, ⟨by (with_reducible repeat (first | apply Kd.R_alloc | apply Kd.R_drewN | apply Kd.R_drew)); exact HO_9.out⟩, ⟨by repeat (first | (with_reducible first | exact HB.out | apply below_alloc | apply pw_below_drewN | apply below_drew1) | exact HB.out)⟩⟩
                          · replace c46 := Bool.eq_false_iff.mpr c46
                            subst c46
                            have H1 : (ontimelaw44_ResponseTimes.j2 kj38 l0 a1 t312 t313 t314 x9_1 ((t314.length : Int) != (l0.length : Int))) = some r := by rw [if_neg (show ¬ (false = true) by decide)] at H; exact H
                            clear H
                            have H := H1
                            clear H1
                            have H' := Aside0.mk H
                            clear H
                            obtain ⟨Ao50, co50, eo50⟩ := Kd.R_slice HO_7.out
                            subst eo50
                            go_wp2
                            repeat (go_quiet (fail); try go_wp2)
                            go_meet
                            case rel => exact ⟨_, (((t314.length : Int) != (l0.length : Int))), (by first | rfl | (simp; done) | (simp [*]; done)), H', ⟨by have := HK1.out; have := HJ38.out; first | omega | exact Nat.le_refl _⟩, ⟨by (with_reducible repeat (first | apply Kd.R_alloc | apply Kd.R_drewN | apply Kd.R_drew)); exact HO_7.out⟩, ⟨by (with_reducible repeat (first | apply Kd.R_alloc | apply Kd.R_drewN | apply Kd.R_drew)); exact HO_9.out⟩, ⟨by repeat (first | (with_reducible first | exact HB.out | apply below_alloc | apply pw_below_drewN | apply below_drew1) | exact HB.out)⟩⟩
                        case rest =>
                          clear HC45
                          try clear c1
                          try clear c2
                          try clear p2
                          try clear q2
                          try clear hx2
                          try clear hf2
                          try clear c4
                          try clear c6
                          try clear p6
                          try clear c10
                          try clear c12
                          try clear c13
                          try clear c13b0
                          try clear c13b1
                          try clear c14
                          try clear c14b0
                          try clear c14b1
                          try clear c22
                          try clear c22b0
                          try clear c25
                          try clear c25b0
                          try clear c26
                          try clear c26b0
                          try clear p27
                          try clear q27
                          try clear hx27
                          try clear hf27
                          try clear c28
                          try clear c40
                          try clear c40b0
                          try clear c40b1
                          try clear c40b2
                          try clear c41
                          try clear c41b0
                          try clear c41b1
                          try clear c41b2
                          try clear c44
                          try clear c46
                          try clear c47
                          try clear c47b0
                          try clear c47b1
                          try clear c47b2
                          try clear hx27_0
                          try clear p2
                          try clear p27
                          try clear p6
                          try clear q2
                          try clear q27
                          obtain ⟨kq, x112_44, rfl, HA, HJ44, HO_7, HO_9, HB⟩ := hcut
                          cases kq with
                          | zero => exact absurd HA.out (by simp [ontimelaw44_ResponseTimes.j2])
                          | succ kj44 =>
                            have H := HA.out
                            clear HA
                            simp only [ontimelaw44_ResponseTimes.j2] at H
                            by_cases c51 : x112_44 = true
                            · subst c51
                              have H1 : (some false) = some r := by rw [if_pos rfl] at H; exact H
                              clear H
                              have H := H1
                              clear H1
                              obtain rfl := Option.some.inj H
                              go_wp2
                              repeat (go_quiet (fail); try go_wp2)
                              go_ret
                              exact ⟨by first | rfl | (simp [errW_none, errW_some] <;> rfl) | (simp [*, errW_none, errW_some] <;> rfl), by repeat (first | (with_reducible first | exact HB.out | apply below_alloc | apply pw_below_drewN | apply below_drew1) | exact HB.out)⟩
                            · replace c51 := Bool.eq_false_iff.mpr c51
                              subst c51
                              have H1 : (ontimelaw44_ResponseTimes.l1 kj44 l0 a1 t312 t313 t314 x9_1 (t314.length : Int) 0) = some r := by rw [if_neg (show ¬ (false = true) by decide)] at H; exact H
                              clear H
                              have H := H1
                              clear H1
                              have H' := Aside0.mk H
                              clear H
                              obtain ⟨Ao52, co52, eo52⟩ := Kd.R_slice HO_7.out
                              subst eo52
                              go_wp2
                              repeat (go_quiet (fail); try go_wp2)
                              go_loopg [115] kj44 (fun kq v115 w' => ∃ (x115_4 : Int), v115 = .int .i64 x115_4 ∧ Aside0 (ontimelaw44_ResponseTimes.l1 kq l0 a1 t312 t313 t314 x9_1 (t314.length : Int) x115_4 = some r) ∧ Aside0 (kq ≤ kj44) ∧ Aside0 (Kd.R (Kd.int .i64) 3 w' w.heap.size (fun k_ => some k_ ≠ (v321 : Value).ownBlock) (.slice Ao52 t314.length co52) t314) ∧ Aside0 (Kd.R (Kd.int .i64) 3 w' w.heap.size (fun k_ => some k_ ≠ ((.slice Ao52 t314.length co52) : Value).ownBlock) v321 x9_1) ∧ Aside0 (Below w.heap.size w w'))
                              case atStart => exact ⟨(0), (by first | rfl | (simp; done) | (simp [*]; done)), H', ⟨Nat.le_refl _⟩, ⟨by (with_reducible repeat (first | apply Kd.R_alloc | apply Kd.R_drewN | apply Kd.R_drew)); exact HO_7.out⟩, ⟨by (with_reducible repeat (first | apply Kd.R_alloc | apply Kd.R_drewN | apply Kd.R_drew)); exact HO_9.out⟩, ⟨by repeat (first | (with_reducible first | exact HB.out | apply below_alloc | apply pw_below_drewN | apply below_drew1) | exact HB.out)⟩⟩
                              case round =>
                                clear H'
                                try clear c1
                                try clear c2
                                try clear p2
                                try clear q2
                                try clear hx2
                                try clear hf2
                                try clear c4
                                try clear c5
                                try clear c6
                                try clear p6
                                try clear c10
                                try clear c12
                                try clear c13
                                try clear c13b0
                                try clear c13b1
                                try clear c14
                                try clear c14b0
                                try clear c14b1
                                try clear c22
                                try clear c22b0
                                try clear c25
                                try clear c25b0
                                try clear c26
                                try clear c26b0
                                try clear p27
                                try clear q27
                                try clear hx27
                                try clear hf27
                                try clear c28
                                try clear c40
                                try clear c40b0
                                try clear c40b1
                                try clear c40b2
                                try clear c41
                                try clear c41b0
                                try clear c41b1
                                try clear c41b2
                                try clear c44
                                try clear c46
                                try clear c47
                                try clear c47b0
                                try clear c47b1
                                try clear c47b2
                                try clear c51
                                try clear hx27_0
                                try clear p2
                                try clear p27
                                try clear p6
                                try clear q2
                                try clear q27
                                obtain ⟨x115_4, rfl, HA, HK4, HO_7, HO_9, HB⟩ := hrel
                                cases gk with
                                | zero => exact absurd HA.out (by simp [ontimelaw44_ResponseTimes.l1])
                                | succ k4 =>
                                  have H := HA.out
                                  clear HA
                                  simp only [ontimelaw44_ResponseTimes.l1] at H
                                  by_cases c53 : x115_4 < (t314.length : Int)
                                  · rw [if_pos c53] at H
                                    have c53b0 : decide (x115_4 < (t314.length : Int)) = true := decide_eq_true c53
                                    clear c53
                                    by_cases c54 : 0 ≤ x115_4
                                    · rw [if_pos c54] at H
                                      have c54b0 : decide (0 ≤ x115_4) = true := decide_eq_true c54
                                      clear c54
                                      by_cases c55 : x115_4 < (t314.length : Int)
                                      · rw [if_pos c55] at H
                                        have c55b0 : decide (x115_4 < (t314.length : Int)) = true := decide_eq_true c55
                                        clear c55
                                        by_cases c56 : x115_4 < (x9_1.length : Int)
                                        · rw [if_pos c56] at H
                                          have c56b0 : decide (x115_4 < (x9_1.length : Int)) = true := decide_eq_true c56
                                          clear c56
                                          by_cases c57 : (rd t314 x115_4) = (rd x9_1 x115_4)
                                          · rw [if_pos c57] at H
                                            have c57b0 : ((rd t314 x115_4) == (rd x9_1 x115_4)) = true := beq_iff_eq.mpr c57
                                            have c57b1 : ((rd t314 x115_4) != (rd x9_1 x115_4)) = false := bne_eq_false_iff_eq.mpr c57
                                            clear c57
                                            have H' := Aside0.mk H
                                            clear H
                                            have p330 : 0 ≤ (x115_4 : Int) := of_decide_eq_true (by first | (with_reducible assumption) | assumption)
                                            have q330 : x115_4 < (t314.length : Int) := of_decide_eq_true (by first | (with_reducible assumption) | assumption)
                                            obtain ⟨ad330, e330, hx330_0⟩ := Kd.at_int (Kd.R_reads' HO_7.out).2.2 x115_4 p330 q330
                                            cases e330
                                            replace p330 := eq_true p330
                                            replace q330 := eq_true q330
                                            obtain ⟨Ao58, co58, eo58⟩ := Kd.R_slice HO_9.out
                                            subst eo58
                                            have p331 : 0 ≤ (x115_4 : Int) := of_decide_eq_true (by first | (with_reducible assumption) | assumption)
                                            have q331 : x115_4 < (x9_1.length : Int) := of_decide_eq_true (by first | (with_reducible assumption) | assumption)
                                            obtain ⟨ad331, e331, hx331_0⟩ := Kd.at_int (Kd.R_reads' HO_9.out).2.2 x115_4 p331 q331
                                            cases e331
                                            replace p331 := eq_true p331
                                            replace q331 := eq_true q331
                                            go_wp2
                                            repeat (go_quiet (fail); try go_wp2)
                                            go_roundg k4
                                            case measure => have := HK1.out; have := HJ38.out; have := HJ44.out; have := HK4.out; omega
                                            case rel => exact ⟨(wrap64 (x115_4 + 1)), (by first | rfl | (simp; done) | (simp [*]; done)), H', ⟨by have := HK1.out; have := HJ38.out; have := HJ44.out; have := HK4.out; omega⟩, ⟨by (with_reducible repeat (first | apply Kd.R_alloc | apply Kd.R_drewN | apply Kd.R_drew)); exact HO_7.out⟩, ⟨by (with_reducible repeat (first | apply Kd.R_alloc | apply Kd.R_drewN | apply Kd.R_drew)); exact HO_9.out⟩, ⟨by repeat (first | (with_reducible first | exact HB.out | apply below_alloc | apply pw_below_drewN | apply below_drew1) | exact HB.out)⟩⟩
                                          · rw [if_neg c57] at H
                                            have c57b0 : ((rd t314 x115_4) == (rd x9_1 x115_4)) = false := beq_eq_false_iff_ne.mpr c57
                                            have c57b1 : ((rd t314 x115_4) != (rd x9_1 x115_4)) = true := bne_iff_ne.mpr c57
                                            obtain rfl := Option.some.inj H
                                            have p330 : 0 ≤ (x115_4 : Int) := of_decide_eq_true (by first | (with_reducible assumption) | assumption)
                                            have q330 : x115_4 < (t314.length : Int) := of_decide_eq_true (by first | (with_reducible assumption) | assumption)
                                            obtain ⟨ad330, e330, hx330_0⟩ := Kd.at_int (Kd.R_reads' HO_7.out).2.2 x115_4 p330 q330
                                            cases e330
                                            replace p330 := eq_true p330
                                            replace q330 := eq_true q330
                                            obtain ⟨Ao59, co59, eo59⟩ := Kd.R_slice HO_9.out
                                            subst eo59
                                            have p331 : 0 ≤ (x115_4 : Int) := of_decide_eq_true (by first | (with_reducible assumption) | assumption)
                                            have q331 : x115_4 < (x9_1.length : Int) := of_decide_eq_true (by first | (with_reducible assumption) | assumption)
                                            obtain ⟨ad331, e331, hx331_0⟩ := Kd.at_int (Kd.R_reads' HO_9.out).2.2 x115_4 p331 q331
                                            cases e331
                                            replace p331 := eq_true p331
                                            replace q331 := eq_true q331
                                            go_wp2
                                            repeat (go_quiet (fail); try go_wp2)
                                            go_ret
                                            exact ⟨by first | rfl | (simp [errW_none, errW_some] <;> rfl) | (simp [*, errW_none, errW_some] <;> rfl), by repeat (first | (with_reducible first | exact HB.out | apply below_alloc | apply pw_below_drewN | apply below_drew1) | exact HB.out)⟩
                                        · rw [if_neg c56] at H
                                          exact absurd H (by simp)
                                      · rw [if_neg c55] at H
                                        exact absurd H (by simp)
                                    · rw [if_neg c54] at H
                                      exact absurd H (by simp)
                                  · rw [if_neg c53] at H
                                    have c53b0 : decide (x115_4 < (t314.length : Int)) = false := decide_eq_false c53
                                    clear c53
                                    have HC60 := Aside0.mk H
                                    clear H
                                    go_upto_region 27 with (fail)
                                    repeat (go_quiet (fail); go_upto_region 27 with (fail))
                                    go_cut [135] (fun v135 wc => ∃ (kq : Nat) (x135_59 : Bool), v135 = .bool x135_59 ∧ Aside0 (ontimelaw44_ResponseTimes.j4 kq l0 a1 t312 t313 x135_59 = some r) ∧ Aside0 (kq ≤ k4) ∧ Aside0 (Below w.heap.size w wc))
                                    case first =>
                                      have H := HC60.out
                                      clear HC60
                                      by_cases c61 : a1 < 0
                                      · rw [if_pos c61] at H
                                        have c61b0 : decide (a1 < 0) = true := decide_eq_true c61
                                        clear c61
                                        (first | rw [c61b0] | (simp only [i64_w, i32_w]; rw [c61b0]) | skip)
                                        have H' := Aside0.mk H
                                        clear H
                                        go_wp2
                                        repeat (go_quiet (fail); try go_wp2)
                                        go_meet
                                        case rel => exact ⟨_, (true), (by first | rfl | (simp; done) | (simp [*]; done)), H', ⟨by have := HK1.out; have := HJ38.out; have := HJ44.out; have := HK4.out; first | omega | exact Nat.le_refl _⟩, ⟨by repeat (first | (with_reducible first | exact HB.out | apply below_alloc | apply pw_below_drewN | apply below_drew1) | exact HB.out)⟩⟩
                                      · rw [if_neg c61] at H
                                        have c61b0 : decide (a1 < 0) = false := decide_eq_false c61
                                        clear c61
                                        (first | rw [c61b0] | (simp only [i64_w, i32_w]; rw [c61b0]) | skip)
                                        have H' := Aside0.mk H
                                        clear H
                                        go_wp2
                                        repeat (go_quiet (fail); try go_wp2)
                                        go_meet
                                        case rel => exact ⟨_, (decide (a1 ≥ (l0.length : Int))), (by first | rfl | (simp; done) | (simp [*]; done)), H', ⟨by have := HK1.out; have := HJ38.out; have := HJ44.out; have := HK4.out; first | omega | exact Nat.le_refl _⟩, ⟨by repeat (first | (with_reducible first | exact HB.out | apply below_alloc | apply pw_below_drewN | apply below_drew1) | exact HB.out)⟩⟩
                                    case rest =>
                                      clear HC60
                                      try clear c1
                                      try clear c2
                                      try clear p2
                                      try clear q2
                                      try clear hx2
                                      try clear hf2
                                      try clear p3
                                      try clear q3
                                      try clear hx3
                                      try clear c4
                                      try clear c5
                                      try clear c6
                                      try clear p6
                                      try clear c10
                                      try clear c12
                                      try clear c13
                                      try clear c13b0
                                      try clear c13b1
                                      try clear c14
                                      try clear c14b0
                                      try clear c14b1
                                      try clear c22
                                      try clear c22b0
                                      try clear c25
                                      try clear c25b0
                                      try clear c26
                                      try clear c26b0
                                      try clear p27
                                      try clear q27
                                      try clear hx27
                                      try clear hf27
                                      try clear c28
                                      try clear p33
                                      try clear q33
                                      try clear hx33
                                      try clear c40
                                      try clear c40b0
                                      try clear c40b1
                                      try clear c40b2
                                      try clear c41
                                      try clear c41b0
                                      try clear c41b1
                                      try clear c41b2
                                      try clear c44
                                      try clear c46
                                      try clear c47
                                      try clear c47b0
                                      try clear c47b1
                                      try clear c47b2
                                      try clear c51
                                      try clear c53
                                      try clear c53b0
                                      try clear c54
                                      try clear c54b0
                                      try clear c55
                                      try clear c55b0
                                      try clear c56
                                      try clear c56b0
                                      try clear c57
                                      try clear c57b0
                                      try clear c57b1
                                      try clear c61
                                      try clear c61b0
                                      try clear hx27_0
                                      try clear hx330_0
                                      try clear hx331_0
                                      try clear p2
                                      try clear p27
                                      try clear p330
                                      try clear p331
                                      try clear p6
                                      try clear q2
                                      try clear q27
                                      try clear q330
                                      try clear q331
                                      obtain ⟨kq, x135_59, rfl, HA, HJ59, HB⟩ := hcut
                                      cases kq with
                                      | zero => exact absurd HA.out (by simp [ontimelaw44_ResponseTimes.j4])
                                      | succ kj59 =>
                                        have H := HA.out
                                        clear HA
                                        simp only [ontimelaw44_ResponseTimes.j4] at H
                                        by_cases c62 : x135_59 = true
                                        · subst c62
                                          have H1 : (if t312 = 0 then (some (t313 == 2)) else (some false)) = some r := by rw [if_pos rfl] at H; exact H
                                          clear H
                                          have H := H1
                                          clear H1
                                          by_cases c63 : t312 = 0
                                          · rw [if_pos c63] at H
                                            have c63b0 : (t312 == 0) = true := beq_iff_eq.mpr c63
                                            have c63b1 : (t312 != 0) = false := bne_eq_false_iff_eq.mpr c63
                                            clear c63
                                            obtain rfl := Option.some.inj H
                                            go_wp2
                                            repeat (go_quiet (fail); try go_wp2)
                                            go_ret
                                            exact ⟨by first | rfl | (simp [errW_none, errW_some] <;> rfl) | (simp [*, errW_none, errW_some] <;> rfl), by repeat (first | (with_reducible first | exact HB.out | apply below_alloc | apply pw_below_drewN | apply below_drew1) | exact HB.out)⟩
                                          · rw [if_neg c63] at H
                                            have c63b0 : (t312 == 0) = false := beq_eq_false_iff_ne.mpr c63
                                            have c63b1 : (t312 != 0) = true := bne_iff_ne.mpr c63
                                            obtain rfl := Option.some.inj H
                                            go_wp2
                                            repeat (go_quiet (fail); try go_wp2)
                                            go_ret
                                            exact ⟨by first | rfl | (simp [errW_none, errW_some] <;> rfl) | (simp [*, errW_none, errW_some] <;> rfl), by repeat (first | (with_reducible first | exact HB.out | apply below_alloc | apply pw_below_drewN | apply below_drew1) | exact HB.out)⟩
                                        · replace c62 := Bool.eq_false_iff.mpr c62
                                          subst c62
                                          have H1 : ((ontimelaw44_plain.f kj59 l0).bind fun t332 => ((ontimeref44_Response.f kj59 t332 a1).bind fun bt335 => (if bt335.2 = true then (if t313 = 0 then (if t312 = bt335.1 then (some true) else (some false)) else (some false)) else (if t313 = 21 then (some (t312 == 0)) else (some false))))) = some r := by rw [if_neg (show ¬ (false = true) by decide)] at H; exact H
                                          clear H
                                          have H := H1
                                          clear H1
                                          replace H := Option.bind_eq_some_iff.mp H
                                          obtain ⟨t332, A640, H⟩ := H
                                          replace H : ((ontimeref44_Response.f kj59 t332 a1).bind fun bt335 => (if bt335.2 = true then (if t313 = 0 then (if t312 = bt335.1 then (some true) else (some false)) else (some false)) else (if t313 = 21 then (some (t312 == 0)) else (some false)))) = some r := H
                                          have A64 := Aside0.mk A640
                                          clear A640
                                          replace H := Option.bind_eq_some_iff.mp H
                                          obtain ⟨⟨t335, t336⟩, A650, H⟩ := H
                                          replace H : (if t336 = true then (if t313 = 0 then (if t312 = t335 then (some true) else (some false)) else (some false)) else (if t313 = 21 then (some (t312 == 0)) else (some false))) = some r := H
                                          have A65 := Aside0.mk A650
                                          clear A650
                                          by_cases c66 : t336 = true
                                          · subst c66
                                            have H1 : (if t313 = 0 then (if t312 = t335 then (some true) else (some false)) else (some false)) = some r := by rw [if_pos rfl] at H; exact H
                                            clear H
                                            have H := H1
                                            clear H1
                                            by_cases c67 : t313 = 0
                                            · rw [if_pos c67] at H
                                              have c67b0 : (t313 == 0) = true := beq_iff_eq.mpr c67
                                              have c67b1 : (t313 != 0) = false := bne_eq_false_iff_eq.mpr c67
                                              clear c67
                                              by_cases c68 : t312 = t335
                                              · rw [if_pos c68] at H
                                                have c68b0 : (t312 == t335) = true := beq_iff_eq.mpr c68
                                                have c68b1 : (t312 != t335) = false := bne_eq_false_iff_eq.mpr c68
                                                clear c68
                                                obtain rfl := Option.some.inj H
                                                go_wp2_with (first | (go_at_call 27; (with_reducible refine (ontimelaw44_plain.calls kj59 _ _ l0 t332 _ ?side1 ?side2 A64.out).mono ?_); (case side1 => repeat (first | exact (Kd.C_below HR0.out HB.out) | (with_reducible refine Kd.C_alloc ?_ _) | (with_reducible refine Kd.C_drewN ?_ _) | (with_reducible refine Kd.C_drew ?_))); (case side2 => exact HC0.out); rintro e w69 ⟨v333, rfl, ho0, hb⟩; have n0_ := Aside0.mk (Kd.S_lower ho0 (below_size (by repeat (first | (with_reducible first | exact HB.out | apply below_alloc | apply pw_below_drewN | apply below_drew1) | exact HB.out)))); have n1_ := Aside0.mk (below_step (by repeat (first | (with_reducible first | exact HB.out | apply below_alloc | apply pw_below_drewN | apply below_drew1) | exact HB.out)) hb); clear HB; have HO334 := n0_; have HB := n1_; clear n0_ n1_; (try clear hb); (try clear hb2); (try clear hk); (try clear hi); (try clear ho0); obtain ⟨Ao70, co70, eo70⟩ := Kd.S_slice HO334.out; subst eo70) | (go_at_call 31; (with_reducible refine (ontimeref44_Response.calls kj59 _ _ t332 a1 t335 true _ ?side1 ?side2 A65.out).mono ?_); (case side1 => repeat (first | exact (Kd.S_reads' HO334.out).2.2 | (with_reducible refine Kd.C_alloc ?_ _) | (with_reducible refine Kd.C_drewN ?_ _) | (with_reducible refine Kd.C_drew ?_))); (case side2 => exact (Kd.S_reads' HO334.out).2.1); rintro e w71 ⟨rfl, hb⟩; have n0_ := Aside0.mk (Kd.S_below (by (with_reducible repeat (first | apply Kd.S_alloc | apply Kd.S_drewN | apply Kd.S_drew)); exact HO334.out) hb); have n1_ := Aside0.mk (below_step (by repeat (first | (with_reducible first | exact HB.out | apply below_alloc | apply pw_below_drewN | apply below_drew1) | exact HB.out)) hb); clear HO334; clear HB; have HO334 := n0_; have HB := n1_; clear n0_ n1_; (try clear hb); (try clear hb2); (try clear hk); (try clear hi)))
                                                repeat (go_quiet (first | (go_at_call 27; (with_reducible refine (ontimelaw44_plain.calls kj59 _ _ l0 t332 _ ?side1 ?side2 A64.out).mono ?_); (case side1 => repeat (first | exact (Kd.C_below HR0.out HB.out) | (with_reducible refine Kd.C_alloc ?_ _) | (with_reducible refine Kd.C_drewN ?_ _) | (with_reducible refine Kd.C_drew ?_))); (case side2 => exact HC0.out); rintro e w69 ⟨v333, rfl, ho0, hb⟩; have n0_ := Aside0.mk (Kd.S_lower ho0 (below_size (by repeat (first | (with_reducible first | exact HB.out | apply below_alloc | apply pw_below_drewN | apply below_drew1) | exact HB.out)))); have n1_ := Aside0.mk (below_step (by repeat (first | (with_reducible first | exact HB.out | apply below_alloc | apply pw_below_drewN | apply below_drew1) | exact HB.out)) hb); clear HB; have HO334 := n0_; have HB := n1_; clear n0_ n1_; (try clear hb); (try clear hb2); (try clear hk); (try clear hi); (try clear ho0); obtain ⟨Ao70, co70, eo70⟩ := Kd.S_slice HO334.out; subst eo70) | (go_at_call 31; (with_reducible refine (ontimeref44_Response.calls kj59 _ _ t332 a1 t335 true _ ?side1 ?side2 A65.out).mono ?_); (case side1 => repeat (first | exact (Kd.S_reads' HO334.out).2.2 | (with_reducible refine Kd.C_alloc ?_ _) | (with_reducible refine Kd.C_drewN ?_ _) | (with_reducible refine Kd.C_drew ?_))); (case side2 => exact (Kd.S_reads' HO334.out).2.1); rintro e w71 ⟨rfl, hb⟩; have n0_ := Aside0.mk (Kd.S_below (by (with_reducible repeat (first | apply Kd.S_alloc | apply Kd.S_drewN | apply Kd.S_drew)); exact HO334.out) hb); have n1_ := Aside0.mk (below_step (by repeat (first | (with_reducible first | exact HB.out | apply below_alloc | apply pw_below_drewN | apply below_drew1) | exact HB.out)) hb); clear HO334; clear HB; have HO334 := n0_; have HB := n1_; clear n0_ n1_; (try clear hb); (try clear hb2); (try clear hk); (try clear hi))); try go_wp2_with (first | (go_at_call 27; (with_reducible refine (ontimelaw44_plain.calls kj59 _ _ l0 t332 _ ?side1 ?side2 A64.out).mono ?_); (case side1 => repeat (first | exact (Kd.C_below HR0.out HB.out) | (with_reducible refine Kd.C_alloc ?_ _) | (with_reducible refine Kd.C_drewN ?_ _) | (with_reducible refine Kd.C_drew ?_))); (case side2 => exact HC0.out); rintro e w69 ⟨v333, rfl, ho0, hb⟩; have n0_ := Aside0.mk (Kd.S_lower ho0 (below_size (by repeat (first | (with_reducible first | exact HB.out | apply below_alloc | apply pw_below_drewN | apply below_drew1) | exact HB.out)))); have n1_ := Aside0.mk (below_step (by repeat (first | (with_reducible first | exact HB.out | apply below_alloc | apply pw_below_drewN | apply below_drew1) | exact HB.out)) hb); clear HB; have HO334 := n0_; have HB := n1_; clear n0_ n1_; (try clear hb); (try clear hb2); (try clear hk); (try clear hi); (try clear ho0); obtain ⟨Ao70, co70, eo70⟩ := Kd.S_slice HO334.out; subst eo70) | (go_at_call 31; (with_reducible refine (ontimeref44_Response.calls kj59 _ _ t332 a1 t335 true _ ?side1 ?side2 A65.out).mono ?_); (case side1 => repeat (first | exact (Kd.S_reads' HO334.out).2.2 | (with_reducible refine Kd.C_alloc ?_ _) | (with_reducible refine Kd.C_drewN ?_ _) | (with_reducible refine Kd.C_drew ?_))); (case side2 => exact (Kd.S_reads' HO334.out).2.1); rintro e w71 ⟨rfl, hb⟩; have n0_ := Aside0.mk (Kd.S_below (by (with_reducible repeat (first | apply Kd.S_alloc | apply Kd.S_drewN | apply Kd.S_drew)); exact HO334.out) hb); have n1_ := Aside0.mk (below_step (by repeat (first | (with_reducible first | exact HB.out | apply below_alloc | apply pw_below_drewN | apply below_drew1) | exact HB.out)) hb); clear HO334; clear HB; have HO334 := n0_; have HB := n1_; clear n0_ n1_; (try clear hb); (try clear hb2); (try clear hk); (try clear hi))))
                                                go_ret
                                                exact ⟨by first | rfl | (simp [errW_none, errW_some] <;> rfl) | (simp [*, errW_none, errW_some] <;> rfl), by repeat (first | (with_reducible first | exact HB.out | apply below_alloc | apply pw_below_drewN | apply below_drew1) | exact HB.out)⟩
                                              · rw [if_neg c68] at H
                                                have c68b0 : (t312 == t335) = false := beq_eq_false_iff_ne.mpr c68
                                                have c68b1 : (t312 != t335) = true := bne_iff_ne.mpr c68
                                                obtain rfl := Option.some.inj H
                                                go_wp2_with (first | (go_at_call 27; (with_reducible refine (ontimelaw44_plain.calls kj59 _ _ l0 t332 _ ?side1 ?side2 A64.out).mono ?_); (case side1 => repeat (first | exact (Kd.C_below HR0.out HB.out) | (with_reducible refine Kd.C_alloc ?_ _) | (with_reducible refine Kd.C_drewN ?_ _) | (with_reducible refine Kd.C_drew ?_))); (case side2 => exact HC0.out); rintro e w72 ⟨v333, rfl, ho0, hb⟩; have n0_ := Aside0.mk (Kd.S_lower ho0 (below_size (by repeat (first | (with_reducible first | exact HB.out | apply below_alloc | apply pw_below_drewN | apply below_drew1) | exact HB.out)))); have n1_ := Aside0.mk (below_step (by repeat (first | (with_reducible first | exact HB.out | apply below_alloc | apply pw_below_drewN | apply below_drew1) | exact HB.out)) hb); clear HB; have HO334 := n0_; have HB := n1_; clear n0_ n1_; (try clear hb); (try clear hb2); (try clear hk); (try clear hi); (try clear ho0); obtain ⟨Ao73, co73, eo73⟩ := Kd.S_slice HO334.out; subst eo73) | (go_at_call 31; (with_reducible refine (ontimeref44_Response.calls kj59 _ _ t332 a1 t335 true _ ?side1 ?side2 A65.out).mono ?_); (case side1 => repeat (first | exact (Kd.S_reads' HO334.out).2.2 | (with_reducible refine Kd.C_alloc ?_ _) | (with_reducible refine Kd.C_drewN ?_ _) | (with_reducible refine Kd.C_drew ?_))); (case side2 => exact (Kd.S_reads' HO334.out).2.1); rintro e w74 ⟨rfl, hb⟩; have n0_ := Aside0.mk (Kd.S_below (by (with_reducible repeat (first | apply Kd.S_alloc | apply Kd.S_drewN | apply Kd.S_drew)); exact HO334.out) hb); have n1_ := Aside0.mk (below_step (by repeat (first | (with_reducible first | exact HB.out | apply below_alloc | apply pw_below_drewN | apply below_drew1) | exact HB.out)) hb); clear HO334; clear HB; have HO334 := n0_; have HB := n1_; clear n0_ n1_; (try clear hb); (try clear hb2); (try clear hk); (try clear hi)))
                                                repeat (go_quiet (first | (go_at_call 27; (with_reducible refine (ontimelaw44_plain.calls kj59 _ _ l0 t332 _ ?side1 ?side2 A64.out).mono ?_); (case side1 => repeat (first | exact (Kd.C_below HR0.out HB.out) | (with_reducible refine Kd.C_alloc ?_ _) | (with_reducible refine Kd.C_drewN ?_ _) | (with_reducible refine Kd.C_drew ?_))); (case side2 => exact HC0.out); rintro e w72 ⟨v333, rfl, ho0, hb⟩; have n0_ := Aside0.mk (Kd.S_lower ho0 (below_size (by repeat (first | (with_reducible first | exact HB.out | apply below_alloc | apply pw_below_drewN | apply below_drew1) | exact HB.out)))); have n1_ := Aside0.mk (below_step (by repeat (first | (with_reducible first | exact HB.out | apply below_alloc | apply pw_below_drewN | apply below_drew1) | exact HB.out)) hb); clear HB; have HO334 := n0_; have HB := n1_; clear n0_ n1_; (try clear hb); (try clear hb2); (try clear hk); (try clear hi); (try clear ho0); obtain ⟨Ao73, co73, eo73⟩ := Kd.S_slice HO334.out; subst eo73) | (go_at_call 31; (with_reducible refine (ontimeref44_Response.calls kj59 _ _ t332 a1 t335 true _ ?side1 ?side2 A65.out).mono ?_); (case side1 => repeat (first | exact (Kd.S_reads' HO334.out).2.2 | (with_reducible refine Kd.C_alloc ?_ _) | (with_reducible refine Kd.C_drewN ?_ _) | (with_reducible refine Kd.C_drew ?_))); (case side2 => exact (Kd.S_reads' HO334.out).2.1); rintro e w74 ⟨rfl, hb⟩; have n0_ := Aside0.mk (Kd.S_below (by (with_reducible repeat (first | apply Kd.S_alloc | apply Kd.S_drewN | apply Kd.S_drew)); exact HO334.out) hb); have n1_ := Aside0.mk (below_step (by repeat (first | (with_reducible first | exact HB.out | apply below_alloc | apply pw_below_drewN | apply below_drew1) | exact HB.out)) hb); clear HO334; clear HB; have HO334 := n0_; have HB := n1_; clear n0_ n1_; (try clear hb); (try clear hb2); (try clear hk); (try clear hi))); try go_wp2_with (first | (go_at_call 27; (with_reducible refine (ontimelaw44_plain.calls kj59 _ _ l0 t332 _ ?side1 ?side2 A64.out).mono ?_); (case side1 => repeat (first | exact (Kd.C_below HR0.out HB.out) | (with_reducible refine Kd.C_alloc ?_ _) | (with_reducible refine Kd.C_drewN ?_ _) | (with_reducible refine Kd.C_drew ?_))); (case side2 => exact HC0.out); rintro e w72 ⟨v333, rfl, ho0, hb⟩; have n0_ := Aside0.mk (Kd.S_lower ho0 (below_size (by repeat (first | (with_reducible first | exact HB.out | apply below_alloc | apply pw_below_drewN | apply below_drew1) | exact HB.out)))); have n1_ := Aside0.mk (below_step (by repeat (first | (with_reducible first | exact HB.out | apply below_alloc | apply pw_below_drewN | apply below_drew1) | exact HB.out)) hb); clear HB; have HO334 := n0_; have HB := n1_; clear n0_ n1_; (try clear hb); (try clear hb2); (try clear hk); (try clear hi); (try clear ho0); obtain ⟨Ao73, co73, eo73⟩ := Kd.S_slice HO334.out; subst eo73) | (go_at_call 31; (with_reducible refine (ontimeref44_Response.calls kj59 _ _ t332 a1 t335 true _ ?side1 ?side2 A65.out).mono ?_); (case side1 => repeat (first | exact (Kd.S_reads' HO334.out).2.2 | (with_reducible refine Kd.C_alloc ?_ _) | (with_reducible refine Kd.C_drewN ?_ _) | (with_reducible refine Kd.C_drew ?_))); (case side2 => exact (Kd.S_reads' HO334.out).2.1); rintro e w74 ⟨rfl, hb⟩; have n0_ := Aside0.mk (Kd.S_below (by (with_reducible repeat (first | apply Kd.S_alloc | apply Kd.S_drewN | apply Kd.S_drew)); exact HO334.out) hb); have n1_ := Aside0.mk (below_step (by repeat (first | (with_reducible first | exact HB.out | apply below_alloc | apply pw_below_drewN | apply below_drew1) | exact HB.out)) hb); clear HO334; clear HB; have HO334 := n0_; have HB := n1_; clear n0_ n1_; (try clear hb); (try clear hb2); (try clear hk); (try clear hi))))
                                                go_ret
                                                exact ⟨by first | rfl | (simp [errW_none, errW_some] <;> rfl) | (simp [*, errW_none, errW_some] <;> rfl), by repeat (first | (with_reducible first | exact HB.out | apply below_alloc | apply pw_below_drewN | apply below_drew1) | exact HB.out)⟩
                                            · rw [if_neg c67] at H
                                              have c67b0 : (t313 == 0) = false := beq_eq_false_iff_ne.mpr c67
                                              have c67b1 : (t313 != 0) = true := bne_iff_ne.mpr c67
                                              obtain rfl := Option.some.inj H
                                              go_wp2_with (first | (go_at_call 27; (with_reducible refine (ontimelaw44_plain.calls kj59 _ _ l0 t332 _ ?side1 ?side2 A64.out).mono ?_); (case side1 => repeat (first | exact (Kd.C_below HR0.out HB.out) | (with_reducible refine Kd.C_alloc ?_ _) | (with_reducible refine Kd.C_drewN ?_ _) | (with_reducible refine Kd.C_drew ?_))); (case side2 => exact HC0.out); rintro e w75 ⟨v333, rfl, ho0, hb⟩; have n0_ := Aside0.mk (Kd.S_lower ho0 (below_size (by repeat (first | (with_reducible first | exact HB.out | apply below_alloc | apply pw_below_drewN | apply below_drew1) | exact HB.out)))); have n1_ := Aside0.mk (below_step (by repeat (first | (with_reducible first | exact HB.out | apply below_alloc | apply pw_below_drewN | apply below_drew1) | exact HB.out)) hb); clear HB; have HO334 := n0_; have HB := n1_; clear n0_ n1_; (try clear hb); (try clear hb2); (try clear hk); (try clear hi); (try clear ho0); obtain ⟨Ao76, co76, eo76⟩ := Kd.S_slice HO334.out; subst eo76) | (go_at_call 31; (with_reducible refine (ontimeref44_Response.calls kj59 _ _ t332 a1 t335 true _ ?side1 ?side2 A65.out).mono ?_); (case side1 => repeat (first | exact (Kd.S_reads' HO334.out).2.2 | (with_reducible refine Kd.C_alloc ?_ _) | (with_reducible refine Kd.C_drewN ?_ _) | (with_reducible refine Kd.C_drew ?_))); (case side2 => exact (Kd.S_reads' HO334.out).2.1); rintro e w77 ⟨rfl, hb⟩; have n0_ := Aside0.mk (Kd.S_below (by (with_reducible repeat (first | apply Kd.S_alloc | apply Kd.S_drewN | apply Kd.S_drew)); exact HO334.out) hb); have n1_ := Aside0.mk (below_step (by repeat (first | (with_reducible first | exact HB.out | apply below_alloc | apply pw_below_drewN | apply below_drew1) | exact HB.out)) hb); clear HO334; clear HB; have HO334 := n0_; have HB := n1_; clear n0_ n1_; (try clear hb); (try clear hb2); (try clear hk); (try clear hi)))
                                              repeat (go_quiet (first | (go_at_call 27; (with_reducible refine (ontimelaw44_plain.calls kj59 _ _ l0 t332 _ ?side1 ?side2 A64.out).mono ?_); (case side1 => repeat (first | exact (Kd.C_below HR0.out HB.out) | (with_reducible refine Kd.C_alloc ?_ _) | (with_reducible refine Kd.C_drewN ?_ _) | (with_reducible refine Kd.C_drew ?_))); (case side2 => exact HC0.out); rintro e w75 ⟨v333, rfl, ho0, hb⟩; have n0_ := Aside0.mk (Kd.S_lower ho0 (below_size (by repeat (first | (with_reducible first | exact HB.out | apply below_alloc | apply pw_below_drewN | apply below_drew1) | exact HB.out)))); have n1_ := Aside0.mk (below_step (by repeat (first | (with_reducible first | exact HB.out | apply below_alloc | apply pw_below_drewN | apply below_drew1) | exact HB.out)) hb); clear HB; have HO334 := n0_; have HB := n1_; clear n0_ n1_; (try clear hb); (try clear hb2); (try clear hk); (try clear hi); (try clear ho0); obtain ⟨Ao76, co76, eo76⟩ := Kd.S_slice HO334.out; subst eo76) | (go_at_call 31; (with_reducible refine (ontimeref44_Response.calls kj59 _ _ t332 a1 t335 true _ ?side1 ?side2 A65.out).mono ?_); (case side1 => repeat (first | exact (Kd.S_reads' HO334.out).2.2 | (with_reducible refine Kd.C_alloc ?_ _) | (with_reducible refine Kd.C_drewN ?_ _) | (with_reducible refine Kd.C_drew ?_))); (case side2 => exact (Kd.S_reads' HO334.out).2.1); rintro e w77 ⟨rfl, hb⟩; have n0_ := Aside0.mk (Kd.S_below (by (with_reducible repeat (first | apply Kd.S_alloc | apply Kd.S_drewN | apply Kd.S_drew)); exact HO334.out) hb); have n1_ := Aside0.mk (below_step (by repeat (first | (with_reducible first | exact HB.out | apply below_alloc | apply pw_below_drewN | apply below_drew1) | exact HB.out)) hb); clear HO334; clear HB; have HO334 := n0_; have HB := n1_; clear n0_ n1_; (try clear hb); (try clear hb2); (try clear hk); (try clear hi))); try go_wp2_with (first | (go_at_call 27; (with_reducible refine (ontimelaw44_plain.calls kj59 _ _ l0 t332 _ ?side1 ?side2 A64.out).mono ?_); (case side1 => repeat (first | exact (Kd.C_below HR0.out HB.out) | (with_reducible refine Kd.C_alloc ?_ _) | (with_reducible refine Kd.C_drewN ?_ _) | (with_reducible refine Kd.C_drew ?_))); (case side2 => exact HC0.out); rintro e w75 ⟨v333, rfl, ho0, hb⟩; have n0_ := Aside0.mk (Kd.S_lower ho0 (below_size (by repeat (first | (with_reducible first | exact HB.out | apply below_alloc | apply pw_below_drewN | apply below_drew1) | exact HB.out)))); have n1_ := Aside0.mk (below_step (by repeat (first | (with_reducible first | exact HB.out | apply below_alloc | apply pw_below_drewN | apply below_drew1) | exact HB.out)) hb); clear HB; have HO334 := n0_; have HB := n1_; clear n0_ n1_; (try clear hb); (try clear hb2); (try clear hk); (try clear hi); (try clear ho0); obtain ⟨Ao76, co76, eo76⟩ := Kd.S_slice HO334.out; subst eo76) | (go_at_call 31; (with_reducible refine (ontimeref44_Response.calls kj59 _ _ t332 a1 t335 true _ ?side1 ?side2 A65.out).mono ?_); (case side1 => repeat (first | exact (Kd.S_reads' HO334.out).2.2 | (with_reducible refine Kd.C_alloc ?_ _) | (with_reducible refine Kd.C_drewN ?_ _) | (with_reducible refine Kd.C_drew ?_))); (case side2 => exact (Kd.S_reads' HO334.out).2.1); rintro e w77 ⟨rfl, hb⟩; have n0_ := Aside0.mk (Kd.S_below (by (with_reducible repeat (first | apply Kd.S_alloc | apply Kd.S_drewN | apply Kd.S_drew)); exact HO334.out) hb); have n1_ := Aside0.mk (below_step (by repeat (first | (with_reducible first | exact HB.out | apply below_alloc | apply pw_below_drewN | apply below_drew1) | exact HB.out)) hb); clear HO334; clear HB; have HO334 := n0_; have HB := n1_; clear n0_ n1_; (try clear hb); (try clear hb2); (try clear hk); (try clear hi))))
                                              go_ret
                                              exact ⟨by first | rfl | (simp [errW_none, errW_some] <;> rfl) | (simp [*, errW_none, errW_some] <;> rfl), by repeat (first | (with_reducible first | exact HB.out | apply below_alloc | apply pw_below_drewN | apply below_drew1) | exact HB.out)⟩
                                          · replace c66 := Bool.eq_false_iff.mpr c66
                                            subst c66
                                            have H1 : (if t313 = 21 then (some (t312 == 0)) else (some false)) = some r := by rw [if_neg (show ¬ (false = true) by decide)] at H; exact H
                                            clear H
                                            have H := H1
                                            clear H1
                                            by_cases c78 : t313 = 21
                                            · rw [if_pos c78] at H
                                              have c78b0 : (t313 == 21) = true := beq_iff_eq.mpr c78
                                              have c78b1 : (t313 != 21) = false := bne_eq_false_iff_eq.mpr c78
                                              clear c78
                                              obtain rfl := Option.some.inj H
                                              go_wp2_with (first | (go_at_call 27; (with_reducible refine (ontimelaw44_plain.calls kj59 _ _ l0 t332 _ ?side1 ?side2 A64.out).mono ?_); (case side1 => repeat (first | exact (Kd.C_below HR0.out HB.out) | (with_reducible refine Kd.C_alloc ?_ _) | (with_reducible refine Kd.C_drewN ?_ _) | (with_reducible refine Kd.C_drew ?_))); (case side2 => exact HC0.out); rintro e w79 ⟨v333, rfl, ho0, hb⟩; have n0_ := Aside0.mk (Kd.S_lower ho0 (below_size (by repeat (first | (with_reducible first | exact HB.out | apply below_alloc | apply pw_below_drewN | apply below_drew1) | exact HB.out)))); have n1_ := Aside0.mk (below_step (by repeat (first | (with_reducible first | exact HB.out | apply below_alloc | apply pw_below_drewN | apply below_drew1) | exact HB.out)) hb); clear HB; have HO334 := n0_; have HB := n1_; clear n0_ n1_; (try clear hb); (try clear hb2); (try clear hk); (try clear hi); (try clear ho0); obtain ⟨Ao80, co80, eo80⟩ := Kd.S_slice HO334.out; subst eo80) | (go_at_call 31; (with_reducible refine (ontimeref44_Response.calls kj59 _ _ t332 a1 t335 false _ ?side1 ?side2 A65.out).mono ?_); (case side1 => repeat (first | exact (Kd.S_reads' HO334.out).2.2 | (with_reducible refine Kd.C_alloc ?_ _) | (with_reducible refine Kd.C_drewN ?_ _) | (with_reducible refine Kd.C_drew ?_))); (case side2 => exact (Kd.S_reads' HO334.out).2.1); rintro e w81 ⟨rfl, hb⟩; have n0_ := Aside0.mk (Kd.S_below (by (with_reducible repeat (first | apply Kd.S_alloc | apply Kd.S_drewN | apply Kd.S_drew)); exact HO334.out) hb); have n1_ := Aside0.mk (below_step (by repeat (first | (with_reducible first | exact HB.out | apply below_alloc | apply pw_below_drewN | apply below_drew1) | exact HB.out)) hb); clear HO334; clear HB; have HO334 := n0_; have HB := n1_; clear n0_ n1_; (try clear hb); (try clear hb2); (try clear hk); (try clear hi)))
                                              repeat (go_quiet (first | (go_at_call 27; (with_reducible refine (ontimelaw44_plain.calls kj59 _ _ l0 t332 _ ?side1 ?side2 A64.out).mono ?_); (case side1 => repeat (first | exact (Kd.C_below HR0.out HB.out) | (with_reducible refine Kd.C_alloc ?_ _) | (with_reducible refine Kd.C_drewN ?_ _) | (with_reducible refine Kd.C_drew ?_))); (case side2 => exact HC0.out); rintro e w79 ⟨v333, rfl, ho0, hb⟩; have n0_ := Aside0.mk (Kd.S_lower ho0 (below_size (by repeat (first | (with_reducible first | exact HB.out | apply below_alloc | apply pw_below_drewN | apply below_drew1) | exact HB.out)))); have n1_ := Aside0.mk (below_step (by repeat (first | (with_reducible first | exact HB.out | apply below_alloc | apply pw_below_drewN | apply below_drew1) | exact HB.out)) hb); clear HB; have HO334 := n0_; have HB := n1_; clear n0_ n1_; (try clear hb); (try clear hb2); (try clear hk); (try clear hi); (try clear ho0); obtain ⟨Ao80, co80, eo80⟩ := Kd.S_slice HO334.out; subst eo80) | (go_at_call 31; (with_reducible refine (ontimeref44_Response.calls kj59 _ _ t332 a1 t335 false _ ?side1 ?side2 A65.out).mono ?_); (case side1 => repeat (first | exact (Kd.S_reads' HO334.out).2.2 | (with_reducible refine Kd.C_alloc ?_ _) | (with_reducible refine Kd.C_drewN ?_ _) | (with_reducible refine Kd.C_drew ?_))); (case side2 => exact (Kd.S_reads' HO334.out).2.1); rintro e w81 ⟨rfl, hb⟩; have n0_ := Aside0.mk (Kd.S_below (by (with_reducible repeat (first | apply Kd.S_alloc | apply Kd.S_drewN | apply Kd.S_drew)); exact HO334.out) hb); have n1_ := Aside0.mk (below_step (by repeat (first | (with_reducible first | exact HB.out | apply below_alloc | apply pw_below_drewN | apply below_drew1) | exact HB.out)) hb); clear HO334; clear HB; have HO334 := n0_; have HB := n1_; clear n0_ n1_; (try clear hb); (try clear hb2); (try clear hk); (try clear hi))); try go_wp2_with (first | (go_at_call 27; (with_reducible refine (ontimelaw44_plain.calls kj59 _ _ l0 t332 _ ?side1 ?side2 A64.out).mono ?_); (case side1 => repeat (first | exact (Kd.C_below HR0.out HB.out) | (with_reducible refine Kd.C_alloc ?_ _) | (with_reducible refine Kd.C_drewN ?_ _) | (with_reducible refine Kd.C_drew ?_))); (case side2 => exact HC0.out); rintro e w79 ⟨v333, rfl, ho0, hb⟩; have n0_ := Aside0.mk (Kd.S_lower ho0 (below_size (by repeat (first | (with_reducible first | exact HB.out | apply below_alloc | apply pw_below_drewN | apply below_drew1) | exact HB.out)))); have n1_ := Aside0.mk (below_step (by repeat (first | (with_reducible first | exact HB.out | apply below_alloc | apply pw_below_drewN | apply below_drew1) | exact HB.out)) hb); clear HB; have HO334 := n0_; have HB := n1_; clear n0_ n1_; (try clear hb); (try clear hb2); (try clear hk); (try clear hi); (try clear ho0); obtain ⟨Ao80, co80, eo80⟩ := Kd.S_slice HO334.out; subst eo80) | (go_at_call 31; (with_reducible refine (ontimeref44_Response.calls kj59 _ _ t332 a1 t335 false _ ?side1 ?side2 A65.out).mono ?_); (case side1 => repeat (first | exact (Kd.S_reads' HO334.out).2.2 | (with_reducible refine Kd.C_alloc ?_ _) | (with_reducible refine Kd.C_drewN ?_ _) | (with_reducible refine Kd.C_drew ?_))); (case side2 => exact (Kd.S_reads' HO334.out).2.1); rintro e w81 ⟨rfl, hb⟩; have n0_ := Aside0.mk (Kd.S_below (by (with_reducible repeat (first | apply Kd.S_alloc | apply Kd.S_drewN | apply Kd.S_drew)); exact HO334.out) hb); have n1_ := Aside0.mk (below_step (by repeat (first | (with_reducible first | exact HB.out | apply below_alloc | apply pw_below_drewN | apply below_drew1) | exact HB.out)) hb); clear HO334; clear HB; have HO334 := n0_; have HB := n1_; clear n0_ n1_; (try clear hb); (try clear hb2); (try clear hk); (try clear hi))))
                                              go_ret
                                              exact ⟨by first | rfl | (simp [errW_none, errW_some] <;> rfl) | (simp [*, errW_none, errW_some] <;> rfl), by repeat (first | (with_reducible first | exact HB.out | apply below_alloc | apply pw_below_drewN | apply below_drew1) | exact HB.out)⟩
                                            · rw [if_neg c78] at H
                                              have c78b0 : (t313 == 21) = false := beq_eq_false_iff_ne.mpr c78
                                              have c78b1 : (t313 != 21) = true := bne_iff_ne.mpr c78
                                              obtain rfl := Option.some.inj H
                                              go_wp2_with (first | (go_at_call 27; (with_reducible refine (ontimelaw44_plain.calls kj59 _ _ l0 t332 _ ?side1 ?side2 A64.out).mono ?_); (case side1 => repeat (first | exact (Kd.C_below HR0.out HB.out) | (with_reducible refine Kd.C_alloc ?_ _) | (with_reducible refine Kd.C_drewN ?_ _) | (with_reducible refine Kd.C_drew ?_))); (case side2 => exact HC0.out); rintro e w82 ⟨v333, rfl, ho0, hb⟩; have n0_ := Aside0.mk (Kd.S_lower ho0 (below_size (by repeat (first | (with_reducible first | exact HB.out | apply below_alloc | apply pw_below_drewN | apply below_drew1) | exact HB.out)))); have n1_ := Aside0.mk (below_step (by repeat (first | (with_reducible first | exact HB.out | apply below_alloc | apply pw_below_drewN | apply below_drew1) | exact HB.out)) hb); clear HB; have HO334 := n0_; have HB := n1_; clear n0_ n1_; (try clear hb); (try clear hb2); (try clear hk); (try clear hi); (try clear ho0); obtain ⟨Ao83, co83, eo83⟩ := Kd.S_slice HO334.out; subst eo83) | (go_at_call 31; (with_reducible refine (ontimeref44_Response.calls kj59 _ _ t332 a1 t335 false _ ?side1 ?side2 A65.out).mono ?_); (case side1 => repeat (first | exact (Kd.S_reads' HO334.out).2.2 | (with_reducible refine Kd.C_alloc ?_ _) | (with_reducible refine Kd.C_drewN ?_ _) | (with_reducible refine Kd.C_drew ?_))); (case side2 => exact (Kd.S_reads' HO334.out).2.1); rintro e w84 ⟨rfl, hb⟩; have n0_ := Aside0.mk (Kd.S_below (by (with_reducible repeat (first | apply Kd.S_alloc | apply Kd.S_drewN | apply Kd.S_drew)); exact HO334.out) hb); have n1_ := Aside0.mk (below_step (by repeat (first | (with_reducible first | exact HB.out | apply below_alloc | apply pw_below_drewN | apply below_drew1) | exact HB.out)) hb); clear HO334; clear HB; have HO334 := n0_; have HB := n1_; clear n0_ n1_; (try clear hb); (try clear hb2); (try clear hk); (try clear hi)))
                                              repeat (go_quiet (first | (go_at_call 27; (with_reducible refine (ontimelaw44_plain.calls kj59 _ _ l0 t332 _ ?side1 ?side2 A64.out).mono ?_); (case side1 => repeat (first | exact (Kd.C_below HR0.out HB.out) | (with_reducible refine Kd.C_alloc ?_ _) | (with_reducible refine Kd.C_drewN ?_ _) | (with_reducible refine Kd.C_drew ?_))); (case side2 => exact HC0.out); rintro e w82 ⟨v333, rfl, ho0, hb⟩; have n0_ := Aside0.mk (Kd.S_lower ho0 (below_size (by repeat (first | (with_reducible first | exact HB.out | apply below_alloc | apply pw_below_drewN | apply below_drew1) | exact HB.out)))); have n1_ := Aside0.mk (below_step (by repeat (first | (with_reducible first | exact HB.out | apply below_alloc | apply pw_below_drewN | apply below_drew1) | exact HB.out)) hb); clear HB; have HO334 := n0_; have HB := n1_; clear n0_ n1_; (try clear hb); (try clear hb2); (try clear hk); (try clear hi); (try clear ho0); obtain ⟨Ao83, co83, eo83⟩ := Kd.S_slice HO334.out; subst eo83) | (go_at_call 31; (with_reducible refine (ontimeref44_Response.calls kj59 _ _ t332 a1 t335 false _ ?side1 ?side2 A65.out).mono ?_); (case side1 => repeat (first | exact (Kd.S_reads' HO334.out).2.2 | (with_reducible refine Kd.C_alloc ?_ _) | (with_reducible refine Kd.C_drewN ?_ _) | (with_reducible refine Kd.C_drew ?_))); (case side2 => exact (Kd.S_reads' HO334.out).2.1); rintro e w84 ⟨rfl, hb⟩; have n0_ := Aside0.mk (Kd.S_below (by (with_reducible repeat (first | apply Kd.S_alloc | apply Kd.S_drewN | apply Kd.S_drew)); exact HO334.out) hb); have n1_ := Aside0.mk (below_step (by repeat (first | (with_reducible first | exact HB.out | apply below_alloc | apply pw_below_drewN | apply below_drew1) | exact HB.out)) hb); clear HO334; clear HB; have HO334 := n0_; have HB := n1_; clear n0_ n1_; (try clear hb); (try clear hb2); (try clear hk); (try clear hi))); try go_wp2_with (first | (go_at_call 27; (with_reducible refine (ontimelaw44_plain.calls kj59 _ _ l0 t332 _ ?side1 ?side2 A64.out).mono ?_); (case side1 => repeat (first | exact (Kd.C_below HR0.out HB.out) | (with_reducible refine Kd.C_alloc ?_ _) | (with_reducible refine Kd.C_drewN ?_ _) | (with_reducible refine Kd.C_drew ?_))); (case side2 => exact HC0.out); rintro e w82 ⟨v333, rfl, ho0, hb⟩; have n0_ := Aside0.mk (Kd.S_lower ho0 (below_size (by repeat (first | (with_reducible first | exact HB.out | apply below_alloc | apply pw_below_drewN | apply below_drew1) | exact HB.out)))); have n1_ := Aside0.mk (below_step (by repeat (first | (with_reducible first | exact HB.out | apply below_alloc | apply pw_below_drewN | apply below_drew1) | exact HB.out)) hb); clear HB; have HO334 := n0_; have HB := n1_; clear n0_ n1_; (try clear hb); (try clear hb2); (try clear hk); (try clear hi); (try clear ho0); obtain ⟨Ao83, co83, eo83⟩ := Kd.S_slice HO334.out; subst eo83) | (go_at_call 31; (with_reducible refine (ontimeref44_Response.calls kj59 _ _ t332 a1 t335 false _ ?side1 ?side2 A65.out).mono ?_); (case side1 => repeat (first | exact (Kd.S_reads' HO334.out).2.2 | (with_reducible refine Kd.C_alloc ?_ _) | (with_reducible refine Kd.C_drewN ?_ _) | (with_reducible refine Kd.C_drew ?_))); (case side2 => exact (Kd.S_reads' HO334.out).2.1); rintro e w84 ⟨rfl, hb⟩; have n0_ := Aside0.mk (Kd.S_below (by (with_reducible repeat (first | apply Kd.S_alloc | apply Kd.S_drewN | apply Kd.S_drew)); exact HO334.out) hb); have n1_ := Aside0.mk (below_step (by repeat (first | (with_reducible first | exact HB.out | apply below_alloc | apply pw_below_drewN | apply below_drew1) | exact HB.out)) hb); clear HO334; clear HB; have HO334 := n0_; have HB := n1_; clear n0_ n1_; (try clear hb); (try clear hb2); (try clear hk); (try clear hi))))
                                              go_ret
                                              exact ⟨by first | rfl | (simp [errW_none, errW_some] <;> rfl) | (simp [*, errW_none, errW_some] <;> rfl), by repeat (first | (with_reducible first | exact HB.out | apply below_alloc | apply pw_below_drewN | apply below_drew1) | exact HB.out)⟩
          · rw [if_neg c14] at H
            exact absurd H (by simp)
        · rw [if_neg c13] at H
          exact absurd H (by simp)
      · replace c12 := Bool.eq_false_iff.mpr c12
        subst c12
        have H1 : (if t312 = 0 then (if t313 = 1 then (if (t314.length : Int) = 0 then (if t315 = 1 then ((response_Schedulable.f k l0).bind fun t319 => (some (!t319))) else (some false)) else (some false)) else (some false)) else (some false)) = some r := by rw [if_neg (show ¬ (false = true) by decide)] at H; exact H
        clear H
        have H := H1
        clear H1
        by_cases c85 : t312 = 0
        · rw [if_pos c85] at H
          have c85b0 : (t312 == 0) = true := beq_iff_eq.mpr c85
          have c85b1 : (t312 != 0) = false := bne_eq_false_iff_eq.mpr c85
          clear c85
          by_cases c86 : t313 = 1
          · rw [if_pos c86] at H
            have c86b0 : (t313 == 1) = true := beq_iff_eq.mpr c86
            have c86b1 : (t313 != 1) = false := bne_eq_false_iff_eq.mpr c86
            clear c86
            by_cases c87 : (t314.length : Int) = 0
            · rw [if_pos c87] at H
              have c87b0 : ((t314.length : Int) == 0) = true := beq_iff_eq.mpr c87
              have c87b1 : ((t314.length : Int) != 0) = false := bne_eq_false_iff_eq.mpr c87
              clear c87
              by_cases c88 : t315 = 1
              · rw [if_pos c88] at H
                have c88b0 : (t315 == 1) = true := beq_iff_eq.mpr c88
                have c88b1 : (t315 != 1) = false := bne_eq_false_iff_eq.mpr c88
                clear c88
                replace H := Option.bind_eq_some_iff.mp H
                obtain ⟨t319, A890, H⟩ := H
                replace H : (some (!t319)) = some r := H
                have A89 := Aside0.mk A890
                clear A890
                obtain rfl := Option.some.inj H
                go_enter Try.func10, Try.ntmps10
                go_wp2_with (first | (go_at_call 18; (with_reducible refine (ontimelaw44_awake.calls k  true _ A3.out).mono ?_); rintro e w90 ⟨rfl, hb⟩; have n0_ := Aside0.mk (below_step (by repeat (first | (with_reducible first | exact HB.out | apply below_alloc | apply pw_below_drewN | apply below_drew1) | exact HB.out)) hb); clear HB; have HB := n0_; clear n0_; (try clear hb); (try clear hb2); (try clear hk); (try clear hi)) | (go_at_call 19; (with_reducible refine (ontimelaw44_great.calls k _ _ l0 false _ ?side1 ?side2 A5.out).mono ?_); (case side1 => repeat (first | exact (Kd.C_below HR0.out HB.out) | (with_reducible refine Kd.C_alloc ?_ _) | (with_reducible refine Kd.C_drewN ?_ _) | (with_reducible refine Kd.C_drew ?_))); (case side2 => exact HC0.out); rintro e w91 ⟨rfl, hb⟩; have n0_ := Aside0.mk (below_step (by repeat (first | (with_reducible first | exact HB.out | apply below_alloc | apply pw_below_drewN | apply below_drew1) | exact HB.out)) hb); clear HB; have HB := n0_; clear n0_; (try clear hb); (try clear hb2); (try clear hk); (try clear hi)) | (go_at_call 23; (with_reducible refine (response_Response.calls k _ _ l0 a1 t312 t313 _ ?side1 ?side2 A9.out).mono ?_); (case side1 => repeat (first | exact (Kd.C_below HR0.out HB.out) | (with_reducible refine Kd.C_alloc ?_ _) | (with_reducible refine Kd.C_drewN ?_ _) | (with_reducible refine Kd.C_drew ?_))); (case side2 => exact HC0.out); rintro e w92 ⟨rfl, hb⟩; have n0_ := Aside0.mk (below_step (by repeat (first | (with_reducible first | exact HB.out | apply below_alloc | apply pw_below_drewN | apply below_drew1) | exact HB.out)) hb); clear HB; have HB := n0_; clear n0_; (try clear hb); (try clear hb2); (try clear hk); (try clear hi)) | (go_at_call 29; (with_reducible refine (response_All.calls k _ _ l0 t314 t315 _ ?side1 ?side2 A10.out).mono ?_); (case side1 => repeat (first | exact (Kd.C_below HR0.out HB.out) | (with_reducible refine Kd.C_alloc ?_ _) | (with_reducible refine Kd.C_drewN ?_ _) | (with_reducible refine Kd.C_drew ?_))); (case side2 => exact HC0.out); rintro e w93 ⟨v316, rfl, ho0, hb⟩; have n0_ := Aside0.mk (Kd.R_lower ho0 (below_size (by repeat (first | (with_reducible first | exact HB.out | apply below_alloc | apply pw_below_drewN | apply below_drew1) | exact HB.out)))); have n1_ := Aside0.mk (below_step (by repeat (first | (with_reducible first | exact HB.out | apply below_alloc | apply pw_below_drewN | apply below_drew1) | exact HB.out)) hb); clear HB; have HO317 := n0_; have HB := n1_; clear n0_ n1_; (try clear hb); (try clear hb2); (try clear hk); (try clear hi); (try clear ho0)) | (go_at_call 20; (with_reducible refine (ceiling_Valid.calls k _ _ l0 false _ ?side1 ?side2 A11.out).mono ?_); (case side1 => repeat (first | exact (Kd.C_below HR0.out HB.out) | (with_reducible refine Kd.C_alloc ?_ _) | (with_reducible refine Kd.C_drewN ?_ _) | (with_reducible refine Kd.C_drew ?_))); (case side2 => exact HC0.out); rintro e w94 ⟨rfl, hb⟩; have n0_ := Aside0.mk (Kd.R_below (by (with_reducible repeat (first | apply Kd.R_alloc | apply Kd.R_drewN | apply Kd.R_drew)); exact HO317.out) hb); have n1_ := Aside0.mk (below_step (by repeat (first | (with_reducible first | exact HB.out | apply below_alloc | apply pw_below_drewN | apply below_drew1) | exact HB.out)) hb); clear HO317; clear HB; have HO317 := n0_; have HB := n1_; clear n0_ n1_; (try clear hb); (try clear hb2); (try clear hk); (try clear hi); obtain ⟨Ao95, co95, eo95⟩ := Kd.R_slice HO317.out; subst eo95) | (go_at_call 30; (with_reducible refine (response_Schedulable.calls k _ _ l0 t319 _ ?side1 ?side2 A89.out).mono ?_); (case side1 => repeat (first | exact (Kd.C_below HR0.out HB.out) | (with_reducible refine Kd.C_alloc ?_ _) | (with_reducible refine Kd.C_drewN ?_ _) | (with_reducible refine Kd.C_drew ?_))); (case side2 => exact HC0.out); rintro e w96 ⟨rfl, hb⟩; have n0_ := Aside0.mk (Kd.R_below (by (with_reducible repeat (first | apply Kd.R_alloc | apply Kd.R_drewN | apply Kd.R_drew)); exact HO317.out) hb); have n1_ := Aside0.mk (below_step (by repeat (first | (with_reducible first | exact HB.out | apply below_alloc | apply pw_below_drewN | apply below_drew1) | exact HB.out)) hb); clear HO317; clear HB; have HO317 := n0_; have HB := n1_; clear n0_ n1_; (try clear hb); (try clear hb2); (try clear hk); (try clear hi)))
                repeat (go_quiet (first | (go_at_call 18; (with_reducible refine (ontimelaw44_awake.calls k  true _ A3.out).mono ?_); rintro e w90 ⟨rfl, hb⟩; have n0_ := Aside0.mk (below_step (by repeat (first | (with_reducible first | exact HB.out | apply below_alloc | apply pw_below_drewN | apply below_drew1) | exact HB.out)) hb); clear HB; have HB := n0_; clear n0_; (try clear hb); (try clear hb2); (try clear hk); (try clear hi)) | (go_at_call 19; (with_reducible refine (ontimelaw44_great.calls k _ _ l0 false _ ?side1 ?side2 A5.out).mono ?_); (case side1 => repeat (first | exact (Kd.C_below HR0.out HB.out) | (with_reducible refine Kd.C_alloc ?_ _) | (with_reducible refine Kd.C_drewN ?_ _) | (with_reducible refine Kd.C_drew ?_))); (case side2 => exact HC0.out); rintro e w91 ⟨rfl, hb⟩; have n0_ := Aside0.mk (below_step (by repeat (first | (with_reducible first | exact HB.out | apply below_alloc | apply pw_below_drewN | apply below_drew1) | exact HB.out)) hb); clear HB; have HB := n0_; clear n0_; (try clear hb); (try clear hb2); (try clear hk); (try clear hi)) | (go_at_call 23; (with_reducible refine (response_Response.calls k _ _ l0 a1 t312 t313 _ ?side1 ?side2 A9.out).mono ?_); (case side1 => repeat (first | exact (Kd.C_below HR0.out HB.out) | (with_reducible refine Kd.C_alloc ?_ _) | (with_reducible refine Kd.C_drewN ?_ _) | (with_reducible refine Kd.C_drew ?_))); (case side2 => exact HC0.out); rintro e w92 ⟨rfl, hb⟩; have n0_ := Aside0.mk (below_step (by repeat (first | (with_reducible first | exact HB.out | apply below_alloc | apply pw_below_drewN | apply below_drew1) | exact HB.out)) hb); clear HB; have HB := n0_; clear n0_; (try clear hb); (try clear hb2); (try clear hk); (try clear hi)) | (go_at_call 29; (with_reducible refine (response_All.calls k _ _ l0 t314 t315 _ ?side1 ?side2 A10.out).mono ?_); (case side1 => repeat (first | exact (Kd.C_below HR0.out HB.out) | (with_reducible refine Kd.C_alloc ?_ _) | (with_reducible refine Kd.C_drewN ?_ _) | (with_reducible refine Kd.C_drew ?_))); (case side2 => exact HC0.out); rintro e w93 ⟨v316, rfl, ho0, hb⟩; have n0_ := Aside0.mk (Kd.R_lower ho0 (below_size (by repeat (first | (with_reducible first | exact HB.out | apply below_alloc | apply pw_below_drewN | apply below_drew1) | exact HB.out)))); have n1_ := Aside0.mk (below_step (by repeat (first | (with_reducible first | exact HB.out | apply below_alloc | apply pw_below_drewN | apply below_drew1) | exact HB.out)) hb); clear HB; have HO317 := n0_; have HB := n1_; clear n0_ n1_; (try clear hb); (try clear hb2); (try clear hk); (try clear hi); (try clear ho0)) | (go_at_call 20; (with_reducible refine (ceiling_Valid.calls k _ _ l0 false _ ?side1 ?side2 A11.out).mono ?_); (case side1 => repeat (first | exact (Kd.C_below HR0.out HB.out) | (with_reducible refine Kd.C_alloc ?_ _) | (with_reducible refine Kd.C_drewN ?_ _) | (with_reducible refine Kd.C_drew ?_))); (case side2 => exact HC0.out); rintro e w94 ⟨rfl, hb⟩; have n0_ := Aside0.mk (Kd.R_below (by (with_reducible repeat (first | apply Kd.R_alloc | apply Kd.R_drewN | apply Kd.R_drew)); exact HO317.out) hb); have n1_ := Aside0.mk (below_step (by repeat (first | (with_reducible first | exact HB.out | apply below_alloc | apply pw_below_drewN | apply below_drew1) | exact HB.out)) hb); clear HO317; clear HB; have HO317 := n0_; have HB := n1_; clear n0_ n1_; (try clear hb); (try clear hb2); (try clear hk); (try clear hi); obtain ⟨Ao95, co95, eo95⟩ := Kd.R_slice HO317.out; subst eo95) | (go_at_call 30; (with_reducible refine (response_Schedulable.calls k _ _ l0 t319 _ ?side1 ?side2 A89.out).mono ?_); (case side1 => repeat (first | exact (Kd.C_below HR0.out HB.out) | (with_reducible refine Kd.C_alloc ?_ _) | (with_reducible refine Kd.C_drewN ?_ _) | (with_reducible refine Kd.C_drew ?_))); (case side2 => exact HC0.out); rintro e w96 ⟨rfl, hb⟩; have n0_ := Aside0.mk (Kd.R_below (by (with_reducible repeat (first | apply Kd.R_alloc | apply Kd.R_drewN | apply Kd.R_drew)); exact HO317.out) hb); have n1_ := Aside0.mk (below_step (by repeat (first | (with_reducible first | exact HB.out | apply below_alloc | apply pw_below_drewN | apply below_drew1) | exact HB.out)) hb); clear HO317; clear HB; have HO317 := n0_; have HB := n1_; clear n0_ n1_; (try clear hb); (try clear hb2); (try clear hk); (try clear hi))); try go_wp2_with (first | (go_at_call 18; (with_reducible refine (ontimelaw44_awake.calls k  true _ A3.out).mono ?_); rintro e w90 ⟨rfl, hb⟩; have n0_ := Aside0.mk (below_step (by repeat (first | (with_reducible first | exact HB.out | apply below_alloc | apply pw_below_drewN | apply below_drew1) | exact HB.out)) hb); clear HB; have HB := n0_; clear n0_; (try clear hb); (try clear hb2); (try clear hk); (try clear hi)) | (go_at_call 19; (with_reducible refine (ontimelaw44_great.calls k _ _ l0 false _ ?side1 ?side2 A5.out).mono ?_); (case side1 => repeat (first | exact (Kd.C_below HR0.out HB.out) | (with_reducible refine Kd.C_alloc ?_ _) | (with_reducible refine Kd.C_drewN ?_ _) | (with_reducible refine Kd.C_drew ?_))); (case side2 => exact HC0.out); rintro e w91 ⟨rfl, hb⟩; have n0_ := Aside0.mk (below_step (by repeat (first | (with_reducible first | exact HB.out | apply below_alloc | apply pw_below_drewN | apply below_drew1) | exact HB.out)) hb); clear HB; have HB := n0_; clear n0_; (try clear hb); (try clear hb2); (try clear hk); (try clear hi)) | (go_at_call 23; (with_reducible refine (response_Response.calls k _ _ l0 a1 t312 t313 _ ?side1 ?side2 A9.out).mono ?_); (case side1 => repeat (first | exact (Kd.C_below HR0.out HB.out) | (with_reducible refine Kd.C_alloc ?_ _) | (with_reducible refine Kd.C_drewN ?_ _) | (with_reducible refine Kd.C_drew ?_))); (case side2 => exact HC0.out); rintro e w92 ⟨rfl, hb⟩; have n0_ := Aside0.mk (below_step (by repeat (first | (with_reducible first | exact HB.out | apply below_alloc | apply pw_below_drewN | apply below_drew1) | exact HB.out)) hb); clear HB; have HB := n0_; clear n0_; (try clear hb); (try clear hb2); (try clear hk); (try clear hi)) | (go_at_call 29; (with_reducible refine (response_All.calls k _ _ l0 t314 t315 _ ?side1 ?side2 A10.out).mono ?_); (case side1 => repeat (first | exact (Kd.C_below HR0.out HB.out) | (with_reducible refine Kd.C_alloc ?_ _) | (with_reducible refine Kd.C_drewN ?_ _) | (with_reducible refine Kd.C_drew ?_))); (case side2 => exact HC0.out); rintro e w93 ⟨v316, rfl, ho0, hb⟩; have n0_ := Aside0.mk (Kd.R_lower ho0 (below_size (by repeat (first | (with_reducible first | exact HB.out | apply below_alloc | apply pw_below_drewN | apply below_drew1) | exact HB.out)))); have n1_ := Aside0.mk (below_step (by repeat (first | (with_reducible first | exact HB.out | apply below_alloc | apply pw_below_drewN | apply below_drew1) | exact HB.out)) hb); clear HB; have HO317 := n0_; have HB := n1_; clear n0_ n1_; (try clear hb); (try clear hb2); (try clear hk); (try clear hi); (try clear ho0)) | (go_at_call 20; (with_reducible refine (ceiling_Valid.calls k _ _ l0 false _ ?side1 ?side2 A11.out).mono ?_); (case side1 => repeat (first | exact (Kd.C_below HR0.out HB.out) | (with_reducible refine Kd.C_alloc ?_ _) | (with_reducible refine Kd.C_drewN ?_ _) | (with_reducible refine Kd.C_drew ?_))); (case side2 => exact HC0.out); rintro e w94 ⟨rfl, hb⟩; have n0_ := Aside0.mk (Kd.R_below (by (with_reducible repeat (first | apply Kd.R_alloc | apply Kd.R_drewN | apply Kd.R_drew)); exact HO317.out) hb); have n1_ := Aside0.mk (below_step (by repeat (first | (with_reducible first | exact HB.out | apply below_alloc | apply pw_below_drewN | apply below_drew1) | exact HB.out)) hb); clear HO317; clear HB; have HO317 := n0_; have HB := n1_; clear n0_ n1_; (try clear hb); (try clear hb2); (try clear hk); (try clear hi); obtain ⟨Ao95, co95, eo95⟩ := Kd.R_slice HO317.out; subst eo95) | (go_at_call 30; (with_reducible refine (response_Schedulable.calls k _ _ l0 t319 _ ?side1 ?side2 A89.out).mono ?_); (case side1 => repeat (first | exact (Kd.C_below HR0.out HB.out) | (with_reducible refine Kd.C_alloc ?_ _) | (with_reducible refine Kd.C_drewN ?_ _) | (with_reducible refine Kd.C_drew ?_))); (case side2 => exact HC0.out); rintro e w96 ⟨rfl, hb⟩; have n0_ := Aside0.mk (Kd.R_below (by (with_reducible repeat (first | apply Kd.R_alloc | apply Kd.R_drewN | apply Kd.R_drew)); exact HO317.out) hb); have n1_ := Aside0.mk (below_step (by repeat (first | (with_reducible first | exact HB.out | apply below_alloc | apply pw_below_drewN | apply below_drew1) | exact HB.out)) hb); clear HO317; clear HB; have HO317 := n0_; have HB := n1_; clear n0_ n1_; (try clear hb); (try clear hb2); (try clear hk); (try clear hi))))
                go_ret
                exact ⟨by first | rfl | (simp [errW_none, errW_some] <;> rfl) | (simp [*, errW_none, errW_some] <;> rfl), by repeat (first | (with_reducible first | exact HB.out | apply below_alloc | apply pw_below_drewN | apply below_drew1) | exact HB.out)⟩
              · rw [if_neg c88] at H
                have c88b0 : (t315 == 1) = false := beq_eq_false_iff_ne.mpr c88
                have c88b1 : (t315 != 1) = true := bne_iff_ne.mpr c88
                obtain rfl := Option.some.inj H
                go_enter Try.func10, Try.ntmps10
                go_wp2_with (first | (go_at_call 18; (with_reducible refine (ontimelaw44_awake.calls k  true _ A3.out).mono ?_); rintro e w97 ⟨rfl, hb⟩; have n0_ := Aside0.mk (below_step (by repeat (first | (with_reducible first | exact HB.out | apply below_alloc | apply pw_below_drewN | apply below_drew1) | exact HB.out)) hb); clear HB; have HB := n0_; clear n0_; (try clear hb); (try clear hb2); (try clear hk); (try clear hi)) | (go_at_call 19; (with_reducible refine (ontimelaw44_great.calls k _ _ l0 false _ ?side1 ?side2 A5.out).mono ?_); (case side1 => repeat (first | exact (Kd.C_below HR0.out HB.out) | (with_reducible refine Kd.C_alloc ?_ _) | (with_reducible refine Kd.C_drewN ?_ _) | (with_reducible refine Kd.C_drew ?_))); (case side2 => exact HC0.out); rintro e w98 ⟨rfl, hb⟩; have n0_ := Aside0.mk (below_step (by repeat (first | (with_reducible first | exact HB.out | apply below_alloc | apply pw_below_drewN | apply below_drew1) | exact HB.out)) hb); clear HB; have HB := n0_; clear n0_; (try clear hb); (try clear hb2); (try clear hk); (try clear hi)) | (go_at_call 23; (with_reducible refine (response_Response.calls k _ _ l0 a1 t312 t313 _ ?side1 ?side2 A9.out).mono ?_); (case side1 => repeat (first | exact (Kd.C_below HR0.out HB.out) | (with_reducible refine Kd.C_alloc ?_ _) | (with_reducible refine Kd.C_drewN ?_ _) | (with_reducible refine Kd.C_drew ?_))); (case side2 => exact HC0.out); rintro e w99 ⟨rfl, hb⟩; have n0_ := Aside0.mk (below_step (by repeat (first | (with_reducible first | exact HB.out | apply below_alloc | apply pw_below_drewN | apply below_drew1) | exact HB.out)) hb); clear HB; have HB := n0_; clear n0_; (try clear hb); (try clear hb2); (try clear hk); (try clear hi)) | (go_at_call 29; (with_reducible refine (response_All.calls k _ _ l0 t314 t315 _ ?side1 ?side2 A10.out).mono ?_); (case side1 => repeat (first | exact (Kd.C_below HR0.out HB.out) | (with_reducible refine Kd.C_alloc ?_ _) | (with_reducible refine Kd.C_drewN ?_ _) | (with_reducible refine Kd.C_drew ?_))); (case side2 => exact HC0.out); rintro e w100 ⟨v316, rfl, ho0, hb⟩; have n0_ := Aside0.mk (Kd.R_lower ho0 (below_size (by repeat (first | (with_reducible first | exact HB.out | apply below_alloc | apply pw_below_drewN | apply below_drew1) | exact HB.out)))); have n1_ := Aside0.mk (below_step (by repeat (first | (with_reducible first | exact HB.out | apply below_alloc | apply pw_below_drewN | apply below_drew1) | exact HB.out)) hb); clear HB; have HO317 := n0_; have HB := n1_; clear n0_ n1_; (try clear hb); (try clear hb2); (try clear hk); (try clear hi); (try clear ho0)) | (go_at_call 20; (with_reducible refine (ceiling_Valid.calls k _ _ l0 false _ ?side1 ?side2 A11.out).mono ?_); (case side1 => repeat (first | exact (Kd.C_below HR0.out HB.out) | (with_reducible refine Kd.C_alloc ?_ _) | (with_reducible refine Kd.C_drewN ?_ _) | (with_reducible refine Kd.C_drew ?_))); (case side2 => exact HC0.out); rintro e w101 ⟨rfl, hb⟩; have n0_ := Aside0.mk (Kd.R_below (by (with_reducible repeat (first | apply Kd.R_alloc | apply Kd.R_drewN | apply Kd.R_drew)); exact HO317.out) hb); have n1_ := Aside0.mk (below_step (by repeat (first | (with_reducible first | exact HB.out | apply below_alloc | apply pw_below_drewN | apply below_drew1) | exact HB.out)) hb); clear HO317; clear HB; have HO317 := n0_; have HB := n1_; clear n0_ n1_; (try clear hb); (try clear hb2); (try clear hk); (try clear hi); obtain ⟨Ao102, co102, eo102⟩ := Kd.R_slice HO317.out; subst eo102))
                repeat (go_quiet (first | (go_at_call 18; (with_reducible refine (ontimelaw44_awake.calls k  true _ A3.out).mono ?_); rintro e w97 ⟨rfl, hb⟩; have n0_ := Aside0.mk (below_step (by repeat (first | (with_reducible first | exact HB.out | apply below_alloc | apply pw_below_drewN | apply below_drew1) | exact HB.out)) hb); clear HB; have HB := n0_; clear n0_; (try clear hb); (try clear hb2); (try clear hk); (try clear hi)) | (go_at_call 19; (with_reducible refine (ontimelaw44_great.calls k _ _ l0 false _ ?side1 ?side2 A5.out).mono ?_); (case side1 => repeat (first | exact (Kd.C_below HR0.out HB.out) | (with_reducible refine Kd.C_alloc ?_ _) | (with_reducible refine Kd.C_drewN ?_ _) | (with_reducible refine Kd.C_drew ?_))); (case side2 => exact HC0.out); rintro e w98 ⟨rfl, hb⟩; have n0_ := Aside0.mk (below_step (by repeat (first | (with_reducible first | exact HB.out | apply below_alloc | apply pw_below_drewN | apply below_drew1) | exact HB.out)) hb); clear HB; have HB := n0_; clear n0_; (try clear hb); (try clear hb2); (try clear hk); (try clear hi)) | (go_at_call 23; (with_reducible refine (response_Response.calls k _ _ l0 a1 t312 t313 _ ?side1 ?side2 A9.out).mono ?_); (case side1 => repeat (first | exact (Kd.C_below HR0.out HB.out) | (with_reducible refine Kd.C_alloc ?_ _) | (with_reducible refine Kd.C_drewN ?_ _) | (with_reducible refine Kd.C_drew ?_))); (case side2 => exact HC0.out); rintro e w99 ⟨rfl, hb⟩; have n0_ := Aside0.mk (below_step (by repeat (first | (with_reducible first | exact HB.out | apply below_alloc | apply pw_below_drewN | apply below_drew1) | exact HB.out)) hb); clear HB; have HB := n0_; clear n0_; (try clear hb); (try clear hb2); (try clear hk); (try clear hi)) | (go_at_call 29; (with_reducible refine (response_All.calls k _ _ l0 t314 t315 _ ?side1 ?side2 A10.out).mono ?_); (case side1 => repeat (first | exact (Kd.C_below HR0.out HB.out) | (with_reducible refine Kd.C_alloc ?_ _) | (with_reducible refine Kd.C_drewN ?_ _) | (with_reducible refine Kd.C_drew ?_))); (case side2 => exact HC0.out); rintro e w100 ⟨v316, rfl, ho0, hb⟩; have n0_ := Aside0.mk (Kd.R_lower ho0 (below_size (by repeat (first | (with_reducible first | exact HB.out | apply below_alloc | apply pw_below_drewN | apply below_drew1) | exact HB.out)))); have n1_ := Aside0.mk (below_step (by repeat (first | (with_reducible first | exact HB.out | apply below_alloc | apply pw_below_drewN | apply below_drew1) | exact HB.out)) hb); clear HB; have HO317 := n0_; have HB := n1_; clear n0_ n1_; (try clear hb); (try clear hb2); (try clear hk); (try clear hi); (try clear ho0)) | (go_at_call 20; (with_reducible refine (ceiling_Valid.calls k _ _ l0 false _ ?side1 ?side2 A11.out).mono ?_); (case side1 => repeat (first | exact (Kd.C_below HR0.out HB.out) | (with_reducible refine Kd.C_alloc ?_ _) | (with_reducible refine Kd.C_drewN ?_ _) | (with_reducible refine Kd.C_drew ?_))); (case side2 => exact HC0.out); rintro e w101 ⟨rfl, hb⟩; have n0_ := Aside0.mk (Kd.R_below (by (with_reducible repeat (first | apply Kd.R_alloc | apply Kd.R_drewN | apply Kd.R_drew)); exact HO317.out) hb); have n1_ := Aside0.mk (below_step (by repeat (first | (with_reducible first | exact HB.out | apply below_alloc | apply pw_below_drewN | apply below_drew1) | exact HB.out)) hb); clear HO317; clear HB; have HO317 := n0_; have HB := n1_; clear n0_ n1_; (try clear hb); (try clear hb2); (try clear hk); (try clear hi); obtain ⟨Ao102, co102, eo102⟩ := Kd.R_slice HO317.out; subst eo102)); try go_wp2_with (first | (go_at_call 18; (with_reducible refine (ontimelaw44_awake.calls k  true _ A3.out).mono ?_); rintro e w97 ⟨rfl, hb⟩; have n0_ := Aside0.mk (below_step (by repeat (first | (with_reducible first | exact HB.out | apply below_alloc | apply pw_below_drewN | apply below_drew1) | exact HB.out)) hb); clear HB; have HB := n0_; clear n0_; (try clear hb); (try clear hb2); (try clear hk); (try clear hi)) | (go_at_call 19; (with_reducible refine (ontimelaw44_great.calls k _ _ l0 false _ ?side1 ?side2 A5.out).mono ?_); (case side1 => repeat (first | exact (Kd.C_below HR0.out HB.out) | (with_reducible refine Kd.C_alloc ?_ _) | (with_reducible refine Kd.C_drewN ?_ _) | (with_reducible refine Kd.C_drew ?_))); (case side2 => exact HC0.out); rintro e w98 ⟨rfl, hb⟩; have n0_ := Aside0.mk (below_step (by repeat (first | (with_reducible first | exact HB.out | apply below_alloc | apply pw_below_drewN | apply below_drew1) | exact HB.out)) hb); clear HB; have HB := n0_; clear n0_; (try clear hb); (try clear hb2); (try clear hk); (try clear hi)) | (go_at_call 23; (with_reducible refine (response_Response.calls k _ _ l0 a1 t312 t313 _ ?side1 ?side2 A9.out).mono ?_); (case side1 => repeat (first | exact (Kd.C_below HR0.out HB.out) | (with_reducible refine Kd.C_alloc ?_ _) | (with_reducible refine Kd.C_drewN ?_ _) | (with_reducible refine Kd.C_drew ?_))); (case side2 => exact HC0.out); rintro e w99 ⟨rfl, hb⟩; have n0_ := Aside0.mk (below_step (by repeat (first | (with_reducible first | exact HB.out | apply below_alloc | apply pw_below_drewN | apply below_drew1) | exact HB.out)) hb); clear HB; have HB := n0_; clear n0_; (try clear hb); (try clear hb2); (try clear hk); (try clear hi)) | (go_at_call 29; (with_reducible refine (response_All.calls k _ _ l0 t314 t315 _ ?side1 ?side2 A10.out).mono ?_); (case side1 => repeat (first | exact (Kd.C_below HR0.out HB.out) | (with_reducible refine Kd.C_alloc ?_ _) | (with_reducible refine Kd.C_drewN ?_ _) | (with_reducible refine Kd.C_drew ?_))); (case side2 => exact HC0.out); rintro e w100 ⟨v316, rfl, ho0, hb⟩; have n0_ := Aside0.mk (Kd.R_lower ho0 (below_size (by repeat (first | (with_reducible first | exact HB.out | apply below_alloc | apply pw_below_drewN | apply below_drew1) | exact HB.out)))); have n1_ := Aside0.mk (below_step (by repeat (first | (with_reducible first | exact HB.out | apply below_alloc | apply pw_below_drewN | apply below_drew1) | exact HB.out)) hb); clear HB; have HO317 := n0_; have HB := n1_; clear n0_ n1_; (try clear hb); (try clear hb2); (try clear hk); (try clear hi); (try clear ho0)) | (go_at_call 20; (with_reducible refine (ceiling_Valid.calls k _ _ l0 false _ ?side1 ?side2 A11.out).mono ?_); (case side1 => repeat (first | exact (Kd.C_below HR0.out HB.out) | (with_reducible refine Kd.C_alloc ?_ _) | (with_reducible refine Kd.C_drewN ?_ _) | (with_reducible refine Kd.C_drew ?_))); (case side2 => exact HC0.out); rintro e w101 ⟨rfl, hb⟩; have n0_ := Aside0.mk (Kd.R_below (by (with_reducible repeat (first | apply Kd.R_alloc | apply Kd.R_drewN | apply Kd.R_drew)); exact HO317.out) hb); have n1_ := Aside0.mk (below_step (by repeat (first | (with_reducible first | exact HB.out | apply below_alloc | apply pw_below_drewN | apply below_drew1) | exact HB.out)) hb); clear HO317; clear HB; have HO317 := n0_; have HB := n1_; clear n0_ n1_; (try clear hb); (try clear hb2); (try clear hk); (try clear hi); obtain ⟨Ao102, co102, eo102⟩ := Kd.R_slice HO317.out; subst eo102)))
                go_ret
                exact ⟨by first | rfl | (simp [errW_none, errW_some] <;> rfl) | (simp [*, errW_none, errW_some] <;> rfl), by repeat (first | (with_reducible first | exact HB.out | apply below_alloc | apply pw_below_drewN | apply below_drew1) | exact HB.out)⟩
            · rw [if_neg c87] at H
              have c87b0 : ((t314.length : Int) == 0) = false := beq_eq_false_iff_ne.mpr c87
              have c87b1 : ((t314.length : Int) != 0) = true := bne_iff_ne.mpr c87
              have c87b2 : ¬ (t314 = []) := fun h_ => c87 (by rw [h_]; rfl)
              obtain rfl := Option.some.inj H
              go_enter Try.func10, Try.ntmps10
              go_wp2_with (first | (go_at_call 18; (with_reducible refine (ontimelaw44_awake.calls k  true _ A3.out).mono ?_); rintro e w103 ⟨rfl, hb⟩; have n0_ := Aside0.mk (below_step (by repeat (first | (with_reducible first | exact HB.out | apply below_alloc | apply pw_below_drewN | apply below_drew1) | exact HB.out)) hb); clear HB; have HB := n0_; clear n0_; (try clear hb); (try clear hb2); (try clear hk); (try clear hi)) | (go_at_call 19; (with_reducible refine (ontimelaw44_great.calls k _ _ l0 false _ ?side1 ?side2 A5.out).mono ?_); (case side1 => repeat (first | exact (Kd.C_below HR0.out HB.out) | (with_reducible refine Kd.C_alloc ?_ _) | (with_reducible refine Kd.C_drewN ?_ _) | (with_reducible refine Kd.C_drew ?_))); (case side2 => exact HC0.out); rintro e w104 ⟨rfl, hb⟩; have n0_ := Aside0.mk (below_step (by repeat (first | (with_reducible first | exact HB.out | apply below_alloc | apply pw_below_drewN | apply below_drew1) | exact HB.out)) hb); clear HB; have HB := n0_; clear n0_; (try clear hb); (try clear hb2); (try clear hk); (try clear hi)) | (go_at_call 23; (with_reducible refine (response_Response.calls k _ _ l0 a1 t312 t313 _ ?side1 ?side2 A9.out).mono ?_); (case side1 => repeat (first | exact (Kd.C_below HR0.out HB.out) | (with_reducible refine Kd.C_alloc ?_ _) | (with_reducible refine Kd.C_drewN ?_ _) | (with_reducible refine Kd.C_drew ?_))); (case side2 => exact HC0.out); rintro e w105 ⟨rfl, hb⟩; have n0_ := Aside0.mk (below_step (by repeat (first | (with_reducible first | exact HB.out | apply below_alloc | apply pw_below_drewN | apply below_drew1) | exact HB.out)) hb); clear HB; have HB := n0_; clear n0_; (try clear hb); (try clear hb2); (try clear hk); (try clear hi)) | (go_at_call 29; (with_reducible refine (response_All.calls k _ _ l0 t314 t315 _ ?side1 ?side2 A10.out).mono ?_); (case side1 => repeat (first | exact (Kd.C_below HR0.out HB.out) | (with_reducible refine Kd.C_alloc ?_ _) | (with_reducible refine Kd.C_drewN ?_ _) | (with_reducible refine Kd.C_drew ?_))); (case side2 => exact HC0.out); rintro e w106 ⟨v316, rfl, ho0, hb⟩; have n0_ := Aside0.mk (Kd.R_lower ho0 (below_size (by repeat (first | (with_reducible first | exact HB.out | apply below_alloc | apply pw_below_drewN | apply below_drew1) | exact HB.out)))); have n1_ := Aside0.mk (below_step (by repeat (first | (with_reducible first | exact HB.out | apply below_alloc | apply pw_below_drewN | apply below_drew1) | exact HB.out)) hb); clear HB; have HO317 := n0_; have HB := n1_; clear n0_ n1_; (try clear hb); (try clear hb2); (try clear hk); (try clear hi); (try clear ho0)) | (go_at_call 20; (with_reducible refine (ceiling_Valid.calls k _ _ l0 false _ ?side1 ?side2 A11.out).mono ?_); (case side1 => repeat (first | exact (Kd.C_below HR0.out HB.out) | (with_reducible refine Kd.C_alloc ?_ _) | (with_reducible refine Kd.C_drewN ?_ _) | (with_reducible refine Kd.C_drew ?_))); (case side2 => exact HC0.out); rintro e w107 ⟨rfl, hb⟩; have n0_ := Aside0.mk (Kd.R_below (by (with_reducible repeat (first | apply Kd.R_alloc | apply Kd.R_drewN | apply Kd.R_drew)); exact HO317.out) hb); have n1_ := Aside0.mk (below_step (by repeat (first | (with_reducible first | exact HB.out | apply below_alloc | apply pw_below_drewN | apply below_drew1) | exact HB.out)) hb); clear HO317; clear HB; have HO317 := n0_; have HB := n1_; clear n0_ n1_; (try clear hb); (try clear hb2); (try clear hk); (try clear hi); obtain ⟨Ao108, co108, eo108⟩ := Kd.R_slice HO317.out; subst eo108))
              repeat (go_quiet (first | (go_at_call 18; (with_reducible refine (ontimelaw44_awake.calls k  true _ A3.out).mono ?_); rintro e w103 ⟨rfl, hb⟩; have n0_ := Aside0.mk (below_step (by repeat (first | (with_reducible first | exact HB.out | apply below_alloc | apply pw_below_drewN | apply below_drew1) | exact HB.out)) hb); clear HB; have HB := n0_; clear n0_; (try clear hb); (try clear hb2); (try clear hk); (try clear hi)) | (go_at_call 19; (with_reducible refine (ontimelaw44_great.calls k _ _ l0 false _ ?side1 ?side2 A5.out).mono ?_); (case side1 => repeat (first | exact (Kd.C_below HR0.out HB.out) | (with_reducible refine Kd.C_alloc ?_ _) | (with_reducible refine Kd.C_drewN ?_ _) | (with_reducible refine Kd.C_drew ?_))); (case side2 => exact HC0.out); rintro e w104 ⟨rfl, hb⟩; have n0_ := Aside0.mk (below_step (by repeat (first | (with_reducible first | exact HB.out | apply below_alloc | apply pw_below_drewN | apply below_drew1) | exact HB.out)) hb); clear HB; have HB := n0_; clear n0_; (try clear hb); (try clear hb2); (try clear hk); (try clear hi)) | (go_at_call 23; (with_reducible refine (response_Response.calls k _ _ l0 a1 t312 t313 _ ?side1 ?side2 A9.out).mono ?_); (case side1 => repeat (first | exact (Kd.C_below HR0.out HB.out) | (with_reducible refine Kd.C_alloc ?_ _) | (with_reducible refine Kd.C_drewN ?_ _) | (with_reducible refine Kd.C_drew ?_))); (case side2 => exact HC0.out); rintro e w105 ⟨rfl, hb⟩; have n0_ := Aside0.mk (below_step (by repeat (first | (with_reducible first | exact HB.out | apply below_alloc | apply pw_below_drewN | apply below_drew1) | exact HB.out)) hb); clear HB; have HB := n0_; clear n0_; (try clear hb); (try clear hb2); (try clear hk); (try clear hi)) | (go_at_call 29; (with_reducible refine (response_All.calls k _ _ l0 t314 t315 _ ?side1 ?side2 A10.out).mono ?_); (case side1 => repeat (first | exact (Kd.C_below HR0.out HB.out) | (with_reducible refine Kd.C_alloc ?_ _) | (with_reducible refine Kd.C_drewN ?_ _) | (with_reducible refine Kd.C_drew ?_))); (case side2 => exact HC0.out); rintro e w106 ⟨v316, rfl, ho0, hb⟩; have n0_ := Aside0.mk (Kd.R_lower ho0 (below_size (by repeat (first | (with_reducible first | exact HB.out | apply below_alloc | apply pw_below_drewN | apply below_drew1) | exact HB.out)))); have n1_ := Aside0.mk (below_step (by repeat (first | (with_reducible first | exact HB.out | apply below_alloc | apply pw_below_drewN | apply below_drew1) | exact HB.out)) hb); clear HB; have HO317 := n0_; have HB := n1_; clear n0_ n1_; (try clear hb); (try clear hb2); (try clear hk); (try clear hi); (try clear ho0)) | (go_at_call 20; (with_reducible refine (ceiling_Valid.calls k _ _ l0 false _ ?side1 ?side2 A11.out).mono ?_); (case side1 => repeat (first | exact (Kd.C_below HR0.out HB.out) | (with_reducible refine Kd.C_alloc ?_ _) | (with_reducible refine Kd.C_drewN ?_ _) | (with_reducible refine Kd.C_drew ?_))); (case side2 => exact HC0.out); rintro e w107 ⟨rfl, hb⟩; have n0_ := Aside0.mk (Kd.R_below (by (with_reducible repeat (first | apply Kd.R_alloc | apply Kd.R_drewN | apply Kd.R_drew)); exact HO317.out) hb); have n1_ := Aside0.mk (below_step (by repeat (first | (with_reducible first | exact HB.out | apply below_alloc | apply pw_below_drewN | apply below_drew1) | exact HB.out)) hb); clear HO317; clear HB; have HO317 := n0_; have HB := n1_; clear n0_ n1_; (try clear hb); (try clear hb2); (try clear hk); (try clear hi); obtain ⟨Ao108, co108, eo108⟩ := Kd.R_slice HO317.out; subst eo108)); try go_wp2_with (first | (go_at_call 18; (with_reducible refine (ontimelaw44_awake.calls k  true _ A3.out).mono ?_); rintro e w103 ⟨rfl, hb⟩; have n0_ := Aside0.mk (below_step (by repeat (first | (with_reducible first | exact HB.out | apply below_alloc | apply pw_below_drewN | apply below_drew1) | exact HB.out)) hb); clear HB; have HB := n0_; clear n0_; (try clear hb); (try clear hb2); (try clear hk); (try clear hi)) | (go_at_call 19; (with_reducible refine (ontimelaw44_great.calls k _ _ l0 false _ ?side1 ?side2 A5.out).mono ?_); (case side1 => repeat (first | exact (Kd.C_below HR0.out HB.out) | (with_reducible refine Kd.C_alloc ?_ _) | (with_reducible refine Kd.C_drewN ?_ _) | (with_reducible refine Kd.C_drew ?_))); (case side2 => exact HC0.out); rintro e w104 ⟨rfl, hb⟩; have n0_ := Aside0.mk (below_step (by repeat (first | (with_reducible first | exact HB.out | apply below_alloc | apply pw_below_drewN | apply below_drew1) | exact HB.out)) hb); clear HB; have HB := n0_; clear n0_; (try clear hb); (try clear hb2); (try clear hk); (try clear hi)) | (go_at_call 23; (with_reducible refine (response_Response.calls k _ _ l0 a1 t312 t313 _ ?side1 ?side2 A9.out).mono ?_); (case side1 => repeat (first | exact (Kd.C_below HR0.out HB.out) | (with_reducible refine Kd.C_alloc ?_ _) | (with_reducible refine Kd.C_drewN ?_ _) | (with_reducible refine Kd.C_drew ?_))); (case side2 => exact HC0.out); rintro e w105 ⟨rfl, hb⟩; have n0_ := Aside0.mk (below_step (by repeat (first | (with_reducible first | exact HB.out | apply below_alloc | apply pw_below_drewN | apply below_drew1) | exact HB.out)) hb); clear HB; have HB := n0_; clear n0_; (try clear hb); (try clear hb2); (try clear hk); (try clear hi)) | (go_at_call 29; (with_reducible refine (response_All.calls k _ _ l0 t314 t315 _ ?side1 ?side2 A10.out).mono ?_); (case side1 => repeat (first | exact (Kd.C_below HR0.out HB.out) | (with_reducible refine Kd.C_alloc ?_ _) | (with_reducible refine Kd.C_drewN ?_ _) | (with_reducible refine Kd.C_drew ?_))); (case side2 => exact HC0.out); rintro e w106 ⟨v316, rfl, ho0, hb⟩; have n0_ := Aside0.mk (Kd.R_lower ho0 (below_size (by repeat (first | (with_reducible first | exact HB.out | apply below_alloc | apply pw_below_drewN | apply below_drew1) | exact HB.out)))); have n1_ := Aside0.mk (below_step (by repeat (first | (with_reducible first | exact HB.out | apply below_alloc | apply pw_below_drewN | apply below_drew1) | exact HB.out)) hb); clear HB; have HO317 := n0_; have HB := n1_; clear n0_ n1_; (try clear hb); (try clear hb2); (try clear hk); (try clear hi); (try clear ho0)) | (go_at_call 20; (with_reducible refine (ceiling_Valid.calls k _ _ l0 false _ ?side1 ?side2 A11.out).mono ?_); (case side1 => repeat (first | exact (Kd.C_below HR0.out HB.out) | (with_reducible refine Kd.C_alloc ?_ _) | (with_reducible refine Kd.C_drewN ?_ _) | (with_reducible refine Kd.C_drew ?_))); (case side2 => exact HC0.out); rintro e w107 ⟨rfl, hb⟩; have n0_ := Aside0.mk (Kd.R_below (by (with_reducible repeat (first | apply Kd.R_alloc | apply Kd.R_drewN | apply Kd.R_drew)); exact HO317.out) hb); have n1_ := Aside0.mk (below_step (by repeat (first | (with_reducible first | exact HB.out | apply below_alloc | apply pw_below_drewN | apply below_drew1) | exact HB.out)) hb); clear HO317; clear HB; have HO317 := n0_; have HB := n1_; clear n0_ n1_; (try clear hb); (try clear hb2); (try clear hk); (try clear hi); obtain ⟨Ao108, co108, eo108⟩ := Kd.R_slice HO317.out; subst eo108)))
              go_ret
              exact ⟨by first | rfl | (simp [errW_none, errW_some] <;> rfl) | (simp [*, errW_none, errW_some] <;> rfl), by repeat (first | (with_reducible first | exact HB.out | apply below_alloc | apply pw_below_drewN | apply below_drew1) | exact HB.out)⟩
          · rw [if_neg c86] at H
            have c86b0 : (t313 == 1) = false := beq_eq_false_iff_ne.mpr c86
            have c86b1 : (t313 != 1) = true := bne_iff_ne.mpr c86
            obtain rfl := Option.some.inj H
            go_enter Try.func10, Try.ntmps10
            go_wp2_with (first | (go_at_call 18; (with_reducible refine (ontimelaw44_awake.calls k  true _ A3.out).mono ?_); rintro e w109 ⟨rfl, hb⟩; have n0_ := Aside0.mk (below_step (by repeat (first | (with_reducible first | exact HB.out | apply below_alloc | apply pw_below_drewN | apply below_drew1) | exact HB.out)) hb); clear HB; have HB := n0_; clear n0_; (try clear hb); (try clear hb2); (try clear hk); (try clear hi)) | (go_at_call 19; (with_reducible refine (ontimelaw44_great.calls k _ _ l0 false _ ?side1 ?side2 A5.out).mono ?_); (case side1 => repeat (first | exact (Kd.C_below HR0.out HB.out) | (with_reducible refine Kd.C_alloc ?_ _) | (with_reducible refine Kd.C_drewN ?_ _) | (with_reducible refine Kd.C_drew ?_))); (case side2 => exact HC0.out); rintro e w110 ⟨rfl, hb⟩; have n0_ := Aside0.mk (below_step (by repeat (first | (with_reducible first | exact HB.out | apply below_alloc | apply pw_below_drewN | apply below_drew1) | exact HB.out)) hb); clear HB; have HB := n0_; clear n0_; (try clear hb); (try clear hb2); (try clear hk); (try clear hi)) | (go_at_call 23; (with_reducible refine (response_Response.calls k _ _ l0 a1 t312 t313 _ ?side1 ?side2 A9.out).mono ?_); (case side1 => repeat (first | exact (Kd.C_below HR0.out HB.out) | (with_reducible refine Kd.C_alloc ?_ _) | (with_reducible refine Kd.C_drewN ?_ _) | (with_reducible refine Kd.C_drew ?_))); (case side2 => exact HC0.out); rintro e w111 ⟨rfl, hb⟩; have n0_ := Aside0.mk (below_step (by repeat (first | (with_reducible first | exact HB.out | apply below_alloc | apply pw_below_drewN | apply below_drew1) | exact HB.out)) hb); clear HB; have HB := n0_; clear n0_; (try clear hb); (try clear hb2); (try clear hk); (try clear hi)) | (go_at_call 29; (with_reducible refine (response_All.calls k _ _ l0 t314 t315 _ ?side1 ?side2 A10.out).mono ?_); (case side1 => repeat (first | exact (Kd.C_below HR0.out HB.out) | (with_reducible refine Kd.C_alloc ?_ _) | (with_reducible refine Kd.C_drewN ?_ _) | (with_reducible refine Kd.C_drew ?_))); (case side2 => exact HC0.out); rintro e w112 ⟨v316, rfl, ho0, hb⟩; have n0_ := Aside0.mk (Kd.R_lower ho0 (below_size (by repeat (first | (with_reducible first | exact HB.out | apply below_alloc | apply pw_below_drewN | apply below_drew1) | exact HB.out)))); have n1_ := Aside0.mk (below_step (by repeat (first | (with_reducible first | exact HB.out | apply below_alloc | apply pw_below_drewN | apply below_drew1) | exact HB.out)) hb); clear HB; have HO317 := n0_; have HB := n1_; clear n0_ n1_; (try clear hb); (try clear hb2); (try clear hk); (try clear hi); (try clear ho0)) | (go_at_call 20; (with_reducible refine (ceiling_Valid.calls k _ _ l0 false _ ?side1 ?side2 A11.out).mono ?_); (case side1 => repeat (first | exact (Kd.C_below HR0.out HB.out) | (with_reducible refine Kd.C_alloc ?_ _) | (with_reducible refine Kd.C_drewN ?_ _) | (with_reducible refine Kd.C_drew ?_))); (case side2 => exact HC0.out); rintro e w113 ⟨rfl, hb⟩; have n0_ := Aside0.mk (Kd.R_below (by (with_reducible repeat (first | apply Kd.R_alloc | apply Kd.R_drewN | apply Kd.R_drew)); exact HO317.out) hb); have n1_ := Aside0.mk (below_step (by repeat (first | (with_reducible first | exact HB.out | apply below_alloc | apply pw_below_drewN | apply below_drew1) | exact HB.out)) hb); clear HO317; clear HB; have HO317 := n0_; have HB := n1_; clear n0_ n1_; (try clear hb); (try clear hb2); (try clear hk); (try clear hi)))
            repeat (go_quiet (first | (go_at_call 18; (with_reducible refine (ontimelaw44_awake.calls k  true _ A3.out).mono ?_); rintro e w109 ⟨rfl, hb⟩; have n0_ := Aside0.mk (below_step (by repeat (first | (with_reducible first | exact HB.out | apply below_alloc | apply pw_below_drewN | apply below_drew1) | exact HB.out)) hb); clear HB; have HB := n0_; clear n0_; (try clear hb); (try clear hb2); (try clear hk); (try clear hi)) | (go_at_call 19; (with_reducible refine (ontimelaw44_great.calls k _ _ l0 false _ ?side1 ?side2 A5.out).mono ?_); (case side1 => repeat (first | exact (Kd.C_below HR0.out HB.out) | (with_reducible refine Kd.C_alloc ?_ _) | (with_reducible refine Kd.C_drewN ?_ _) | (with_reducible refine Kd.C_drew ?_))); (case side2 => exact HC0.out); rintro e w110 ⟨rfl, hb⟩; have n0_ := Aside0.mk (below_step (by repeat (first | (with_reducible first | exact HB.out | apply below_alloc | apply pw_below_drewN | apply below_drew1) | exact HB.out)) hb); clear HB; have HB := n0_; clear n0_; (try clear hb); (try clear hb2); (try clear hk); (try clear hi)) | (go_at_call 23; (with_reducible refine (response_Response.calls k _ _ l0 a1 t312 t313 _ ?side1 ?side2 A9.out).mono ?_); (case side1 => repeat (first | exact (Kd.C_below HR0.out HB.out) | (with_reducible refine Kd.C_alloc ?_ _) | (with_reducible refine Kd.C_drewN ?_ _) | (with_reducible refine Kd.C_drew ?_))); (case side2 => exact HC0.out); rintro e w111 ⟨rfl, hb⟩; have n0_ := Aside0.mk (below_step (by repeat (first | (with_reducible first | exact HB.out | apply below_alloc | apply pw_below_drewN | apply below_drew1) | exact HB.out)) hb); clear HB; have HB := n0_; clear n0_; (try clear hb); (try clear hb2); (try clear hk); (try clear hi)) | (go_at_call 29; (with_reducible refine (response_All.calls k _ _ l0 t314 t315 _ ?side1 ?side2 A10.out).mono ?_); (case side1 => repeat (first | exact (Kd.C_below HR0.out HB.out) | (with_reducible refine Kd.C_alloc ?_ _) | (with_reducible refine Kd.C_drewN ?_ _) | (with_reducible refine Kd.C_drew ?_))); (case side2 => exact HC0.out); rintro e w112 ⟨v316, rfl, ho0, hb⟩; have n0_ := Aside0.mk (Kd.R_lower ho0 (below_size (by repeat (first | (with_reducible first | exact HB.out | apply below_alloc | apply pw_below_drewN | apply below_drew1) | exact HB.out)))); have n1_ := Aside0.mk (below_step (by repeat (first | (with_reducible first | exact HB.out | apply below_alloc | apply pw_below_drewN | apply below_drew1) | exact HB.out)) hb); clear HB; have HO317 := n0_; have HB := n1_; clear n0_ n1_; (try clear hb); (try clear hb2); (try clear hk); (try clear hi); (try clear ho0)) | (go_at_call 20; (with_reducible refine (ceiling_Valid.calls k _ _ l0 false _ ?side1 ?side2 A11.out).mono ?_); (case side1 => repeat (first | exact (Kd.C_below HR0.out HB.out) | (with_reducible refine Kd.C_alloc ?_ _) | (with_reducible refine Kd.C_drewN ?_ _) | (with_reducible refine Kd.C_drew ?_))); (case side2 => exact HC0.out); rintro e w113 ⟨rfl, hb⟩; have n0_ := Aside0.mk (Kd.R_below (by (with_reducible repeat (first | apply Kd.R_alloc | apply Kd.R_drewN | apply Kd.R_drew)); exact HO317.out) hb); have n1_ := Aside0.mk (below_step (by repeat (first | (with_reducible first | exact HB.out | apply below_alloc | apply pw_below_drewN | apply below_drew1) | exact HB.out)) hb); clear HO317; clear HB; have HO317 := n0_; have HB := n1_; clear n0_ n1_; (try clear hb); (try clear hb2); (try clear hk); (try clear hi))); try go_wp2_with (first | (go_at_call 18; (with_reducible refine (ontimelaw44_awake.calls k  true _ A3.out).mono ?_); rintro e w109 ⟨rfl, hb⟩; have n0_ := Aside0.mk (below_step (by repeat (first | (with_reducible first | exact HB.out | apply below_alloc | apply pw_below_drewN | apply below_drew1) | exact HB.out)) hb); clear HB; have HB := n0_; clear n0_; (try clear hb); (try clear hb2); (try clear hk); (try clear hi)) | (go_at_call 19; (with_reducible refine (ontimelaw44_great.calls k _ _ l0 false _ ?side1 ?side2 A5.out).mono ?_); (case side1 => repeat (first | exact (Kd.C_below HR0.out HB.out) | (with_reducible refine Kd.C_alloc ?_ _) | (with_reducible refine Kd.C_drewN ?_ _) | (with_reducible refine Kd.C_drew ?_))); (case side2 => exact HC0.out); rintro e w110 ⟨rfl, hb⟩; have n0_ := Aside0.mk (below_step (by repeat (first | (with_reducible first | exact HB.out | apply below_alloc | apply pw_below_drewN | apply below_drew1) | exact HB.out)) hb); clear HB; have HB := n0_; clear n0_; (try clear hb); (try clear hb2); (try clear hk); (try clear hi)) | (go_at_call 23; (with_reducible refine (response_Response.calls k _ _ l0 a1 t312 t313 _ ?side1 ?side2 A9.out).mono ?_); (case side1 => repeat (first | exact (Kd.C_below HR0.out HB.out) | (with_reducible refine Kd.C_alloc ?_ _) | (with_reducible refine Kd.C_drewN ?_ _) | (with_reducible refine Kd.C_drew ?_))); (case side2 => exact HC0.out); rintro e w111 ⟨rfl, hb⟩; have n0_ := Aside0.mk (below_step (by repeat (first | (with_reducible first | exact HB.out | apply below_alloc | apply pw_below_drewN | apply below_drew1) | exact HB.out)) hb); clear HB; have HB := n0_; clear n0_; (try clear hb); (try clear hb2); (try clear hk); (try clear hi)) | (go_at_call 29; (with_reducible refine (response_All.calls k _ _ l0 t314 t315 _ ?side1 ?side2 A10.out).mono ?_); (case side1 => repeat (first | exact (Kd.C_below HR0.out HB.out) | (with_reducible refine Kd.C_alloc ?_ _) | (with_reducible refine Kd.C_drewN ?_ _) | (with_reducible refine Kd.C_drew ?_))); (case side2 => exact HC0.out); rintro e w112 ⟨v316, rfl, ho0, hb⟩; have n0_ := Aside0.mk (Kd.R_lower ho0 (below_size (by repeat (first | (with_reducible first | exact HB.out | apply below_alloc | apply pw_below_drewN | apply below_drew1) | exact HB.out)))); have n1_ := Aside0.mk (below_step (by repeat (first | (with_reducible first | exact HB.out | apply below_alloc | apply pw_below_drewN | apply below_drew1) | exact HB.out)) hb); clear HB; have HO317 := n0_; have HB := n1_; clear n0_ n1_; (try clear hb); (try clear hb2); (try clear hk); (try clear hi); (try clear ho0)) | (go_at_call 20; (with_reducible refine (ceiling_Valid.calls k _ _ l0 false _ ?side1 ?side2 A11.out).mono ?_); (case side1 => repeat (first | exact (Kd.C_below HR0.out HB.out) | (with_reducible refine Kd.C_alloc ?_ _) | (with_reducible refine Kd.C_drewN ?_ _) | (with_reducible refine Kd.C_drew ?_))); (case side2 => exact HC0.out); rintro e w113 ⟨rfl, hb⟩; have n0_ := Aside0.mk (Kd.R_below (by (with_reducible repeat (first | apply Kd.R_alloc | apply Kd.R_drewN | apply Kd.R_drew)); exact HO317.out) hb); have n1_ := Aside0.mk (below_step (by repeat (first | (with_reducible first | exact HB.out | apply below_alloc | apply pw_below_drewN | apply below_drew1) | exact HB.out)) hb); clear HO317; clear HB; have HO317 := n0_; have HB := n1_; clear n0_ n1_; (try clear hb); (try clear hb2); (try clear hk); (try clear hi))))
            go_ret
            exact ⟨by first | rfl | (simp [errW_none, errW_some] <;> rfl) | (simp [*, errW_none, errW_some] <;> rfl), by repeat (first | (with_reducible first | exact HB.out | apply below_alloc | apply pw_below_drewN | apply below_drew1) | exact HB.out)⟩
        · rw [if_neg c85] at H
          have c85b0 : (t312 == 0) = false := beq_eq_false_iff_ne.mpr c85
          have c85b1 : (t312 != 0) = true := bne_iff_ne.mpr c85
          obtain rfl := Option.some.inj H
          go_enter Try.func10, Try.ntmps10
          go_wp2_with (first | (go_at_call 18; (with_reducible refine (ontimelaw44_awake.calls k  true _ A3.out).mono ?_); rintro e w114 ⟨rfl, hb⟩; have n0_ := Aside0.mk (below_step (by repeat (first | (with_reducible first | exact HB.out | apply below_alloc | apply pw_below_drewN | apply below_drew1) | exact HB.out)) hb); clear HB; have HB := n0_; clear n0_; (try clear hb); (try clear hb2); (try clear hk); (try clear hi)) | (go_at_call 19; (with_reducible refine (ontimelaw44_great.calls k _ _ l0 false _ ?side1 ?side2 A5.out).mono ?_); (case side1 => repeat (first | exact (Kd.C_below HR0.out HB.out) | (with_reducible refine Kd.C_alloc ?_ _) | (with_reducible refine Kd.C_drewN ?_ _) | (with_reducible refine Kd.C_drew ?_))); (case side2 => exact HC0.out); rintro e w115 ⟨rfl, hb⟩; have n0_ := Aside0.mk (below_step (by repeat (first | (with_reducible first | exact HB.out | apply below_alloc | apply pw_below_drewN | apply below_drew1) | exact HB.out)) hb); clear HB; have HB := n0_; clear n0_; (try clear hb); (try clear hb2); (try clear hk); (try clear hi)) | (go_at_call 23; (with_reducible refine (response_Response.calls k _ _ l0 a1 t312 t313 _ ?side1 ?side2 A9.out).mono ?_); (case side1 => repeat (first | exact (Kd.C_below HR0.out HB.out) | (with_reducible refine Kd.C_alloc ?_ _) | (with_reducible refine Kd.C_drewN ?_ _) | (with_reducible refine Kd.C_drew ?_))); (case side2 => exact HC0.out); rintro e w116 ⟨rfl, hb⟩; have n0_ := Aside0.mk (below_step (by repeat (first | (with_reducible first | exact HB.out | apply below_alloc | apply pw_below_drewN | apply below_drew1) | exact HB.out)) hb); clear HB; have HB := n0_; clear n0_; (try clear hb); (try clear hb2); (try clear hk); (try clear hi)) | (go_at_call 29; (with_reducible refine (response_All.calls k _ _ l0 t314 t315 _ ?side1 ?side2 A10.out).mono ?_); (case side1 => repeat (first | exact (Kd.C_below HR0.out HB.out) | (with_reducible refine Kd.C_alloc ?_ _) | (with_reducible refine Kd.C_drewN ?_ _) | (with_reducible refine Kd.C_drew ?_))); (case side2 => exact HC0.out); rintro e w117 ⟨v316, rfl, ho0, hb⟩; have n0_ := Aside0.mk (Kd.R_lower ho0 (below_size (by repeat (first | (with_reducible first | exact HB.out | apply below_alloc | apply pw_below_drewN | apply below_drew1) | exact HB.out)))); have n1_ := Aside0.mk (below_step (by repeat (first | (with_reducible first | exact HB.out | apply below_alloc | apply pw_below_drewN | apply below_drew1) | exact HB.out)) hb); clear HB; have HO317 := n0_; have HB := n1_; clear n0_ n1_; (try clear hb); (try clear hb2); (try clear hk); (try clear hi); (try clear ho0)) | (go_at_call 20; (with_reducible refine (ceiling_Valid.calls k _ _ l0 false _ ?side1 ?side2 A11.out).mono ?_); (case side1 => repeat (first | exact (Kd.C_below HR0.out HB.out) | (with_reducible refine Kd.C_alloc ?_ _) | (with_reducible refine Kd.C_drewN ?_ _) | (with_reducible refine Kd.C_drew ?_))); (case side2 => exact HC0.out); rintro e w118 ⟨rfl, hb⟩; have n0_ := Aside0.mk (Kd.R_below (by (with_reducible repeat (first | apply Kd.R_alloc | apply Kd.R_drewN | apply Kd.R_drew)); exact HO317.out) hb); have n1_ := Aside0.mk (below_step (by repeat (first | (with_reducible first | exact HB.out | apply below_alloc | apply pw_below_drewN | apply below_drew1) | exact HB.out)) hb); clear HO317; clear HB; have HO317 := n0_; have HB := n1_; clear n0_ n1_; (try clear hb); (try clear hb2); (try clear hk); (try clear hi)))
          repeat (go_quiet (first | (go_at_call 18; (with_reducible refine (ontimelaw44_awake.calls k  true _ A3.out).mono ?_); rintro e w114 ⟨rfl, hb⟩; have n0_ := Aside0.mk (below_step (by repeat (first | (with_reducible first | exact HB.out | apply below_alloc | apply pw_below_drewN | apply below_drew1) | exact HB.out)) hb); clear HB; have HB := n0_; clear n0_; (try clear hb); (try clear hb2); (try clear hk); (try clear hi)) | (go_at_call 19; (with_reducible refine (ontimelaw44_great.calls k _ _ l0 false _ ?side1 ?side2 A5.out).mono ?_); (case side1 => repeat (first | exact (Kd.C_below HR0.out HB.out) | (with_reducible refine Kd.C_alloc ?_ _) | (with_reducible refine Kd.C_drewN ?_ _) | (with_reducible refine Kd.C_drew ?_))); (case side2 => exact HC0.out); rintro e w115 ⟨rfl, hb⟩; have n0_ := Aside0.mk (below_step (by repeat (first | (with_reducible first | exact HB.out | apply below_alloc | apply pw_below_drewN | apply below_drew1) | exact HB.out)) hb); clear HB; have HB := n0_; clear n0_; (try clear hb); (try clear hb2); (try clear hk); (try clear hi)) | (go_at_call 23; (with_reducible refine (response_Response.calls k _ _ l0 a1 t312 t313 _ ?side1 ?side2 A9.out).mono ?_); (case side1 => repeat (first | exact (Kd.C_below HR0.out HB.out) | (with_reducible refine Kd.C_alloc ?_ _) | (with_reducible refine Kd.C_drewN ?_ _) | (with_reducible refine Kd.C_drew ?_))); (case side2 => exact HC0.out); rintro e w116 ⟨rfl, hb⟩; have n0_ := Aside0.mk (below_step (by repeat (first | (with_reducible first | exact HB.out | apply below_alloc | apply pw_below_drewN | apply below_drew1) | exact HB.out)) hb); clear HB; have HB := n0_; clear n0_; (try clear hb); (try clear hb2); (try clear hk); (try clear hi)) | (go_at_call 29; (with_reducible refine (response_All.calls k _ _ l0 t314 t315 _ ?side1 ?side2 A10.out).mono ?_); (case side1 => repeat (first | exact (Kd.C_below HR0.out HB.out) | (with_reducible refine Kd.C_alloc ?_ _) | (with_reducible refine Kd.C_drewN ?_ _) | (with_reducible refine Kd.C_drew ?_))); (case side2 => exact HC0.out); rintro e w117 ⟨v316, rfl, ho0, hb⟩; have n0_ := Aside0.mk (Kd.R_lower ho0 (below_size (by repeat (first | (with_reducible first | exact HB.out | apply below_alloc | apply pw_below_drewN | apply below_drew1) | exact HB.out)))); have n1_ := Aside0.mk (below_step (by repeat (first | (with_reducible first | exact HB.out | apply below_alloc | apply pw_below_drewN | apply below_drew1) | exact HB.out)) hb); clear HB; have HO317 := n0_; have HB := n1_; clear n0_ n1_; (try clear hb); (try clear hb2); (try clear hk); (try clear hi); (try clear ho0)) | (go_at_call 20; (with_reducible refine (ceiling_Valid.calls k _ _ l0 false _ ?side1 ?side2 A11.out).mono ?_); (case side1 => repeat (first | exact (Kd.C_below HR0.out HB.out) | (with_reducible refine Kd.C_alloc ?_ _) | (with_reducible refine Kd.C_drewN ?_ _) | (with_reducible refine Kd.C_drew ?_))); (case side2 => exact HC0.out); rintro e w118 ⟨rfl, hb⟩; have n0_ := Aside0.mk (Kd.R_below (by (with_reducible repeat (first | apply Kd.R_alloc | apply Kd.R_drewN | apply Kd.R_drew)); exact HO317.out) hb); have n1_ := Aside0.mk (below_step (by repeat (first | (with_reducible first | exact HB.out | apply below_alloc | apply pw_below_drewN | apply below_drew1) | exact HB.out)) hb); clear HO317; clear HB; have HO317 := n0_; have HB := n1_; clear n0_ n1_; (try clear hb); (try clear hb2); (try clear hk); (try clear hi))); try go_wp2_with (first | (go_at_call 18; (with_reducible refine (ontimelaw44_awake.calls k  true _ A3.out).mono ?_); rintro e w114 ⟨rfl, hb⟩; have n0_ := Aside0.mk (below_step (by repeat (first | (with_reducible first | exact HB.out | apply below_alloc | apply pw_below_drewN | apply below_drew1) | exact HB.out)) hb); clear HB; have HB := n0_; clear n0_; (try clear hb); (try clear hb2); (try clear hk); (try clear hi)) | (go_at_call 19; (with_reducible refine (ontimelaw44_great.calls k _ _ l0 false _ ?side1 ?side2 A5.out).mono ?_); (case side1 => repeat (first | exact (Kd.C_below HR0.out HB.out) | (with_reducible refine Kd.C_alloc ?_ _) | (with_reducible refine Kd.C_drewN ?_ _) | (with_reducible refine Kd.C_drew ?_))); (case side2 => exact HC0.out); rintro e w115 ⟨rfl, hb⟩; have n0_ := Aside0.mk (below_step (by repeat (first | (with_reducible first | exact HB.out | apply below_alloc | apply pw_below_drewN | apply below_drew1) | exact HB.out)) hb); clear HB; have HB := n0_; clear n0_; (try clear hb); (try clear hb2); (try clear hk); (try clear hi)) | (go_at_call 23; (with_reducible refine (response_Response.calls k _ _ l0 a1 t312 t313 _ ?side1 ?side2 A9.out).mono ?_); (case side1 => repeat (first | exact (Kd.C_below HR0.out HB.out) | (with_reducible refine Kd.C_alloc ?_ _) | (with_reducible refine Kd.C_drewN ?_ _) | (with_reducible refine Kd.C_drew ?_))); (case side2 => exact HC0.out); rintro e w116 ⟨rfl, hb⟩; have n0_ := Aside0.mk (below_step (by repeat (first | (with_reducible first | exact HB.out | apply below_alloc | apply pw_below_drewN | apply below_drew1) | exact HB.out)) hb); clear HB; have HB := n0_; clear n0_; (try clear hb); (try clear hb2); (try clear hk); (try clear hi)) | (go_at_call 29; (with_reducible refine (response_All.calls k _ _ l0 t314 t315 _ ?side1 ?side2 A10.out).mono ?_); (case side1 => repeat (first | exact (Kd.C_below HR0.out HB.out) | (with_reducible refine Kd.C_alloc ?_ _) | (with_reducible refine Kd.C_drewN ?_ _) | (with_reducible refine Kd.C_drew ?_))); (case side2 => exact HC0.out); rintro e w117 ⟨v316, rfl, ho0, hb⟩; have n0_ := Aside0.mk (Kd.R_lower ho0 (below_size (by repeat (first | (with_reducible first | exact HB.out | apply below_alloc | apply pw_below_drewN | apply below_drew1) | exact HB.out)))); have n1_ := Aside0.mk (below_step (by repeat (first | (with_reducible first | exact HB.out | apply below_alloc | apply pw_below_drewN | apply below_drew1) | exact HB.out)) hb); clear HB; have HO317 := n0_; have HB := n1_; clear n0_ n1_; (try clear hb); (try clear hb2); (try clear hk); (try clear hi); (try clear ho0)) | (go_at_call 20; (with_reducible refine (ceiling_Valid.calls k _ _ l0 false _ ?side1 ?side2 A11.out).mono ?_); (case side1 => repeat (first | exact (Kd.C_below HR0.out HB.out) | (with_reducible refine Kd.C_alloc ?_ _) | (with_reducible refine Kd.C_drewN ?_ _) | (with_reducible refine Kd.C_drew ?_))); (case side2 => exact HC0.out); rintro e w118 ⟨rfl, hb⟩; have n0_ := Aside0.mk (Kd.R_below (by (with_reducible repeat (first | apply Kd.R_alloc | apply Kd.R_drewN | apply Kd.R_drew)); exact HO317.out) hb); have n1_ := Aside0.mk (below_step (by repeat (first | (with_reducible first | exact HB.out | apply below_alloc | apply pw_below_drewN | apply below_drew1) | exact HB.out)) hb); clear HO317; clear HB; have HO317 := n0_; have HB := n1_; clear n0_ n1_; (try clear hb); (try clear hb2); (try clear hk); (try clear hi))))
          go_ret
          exact ⟨by first | rfl | (simp [errW_none, errW_some] <;> rfl) | (simp [*, errW_none, errW_some] <;> rfl), by repeat (first | (with_reducible first | exact HB.out | apply below_alloc | apply pw_below_drewN | apply below_drew1) | exact HB.out)⟩
  · replace c4 := Bool.eq_false_iff.mpr c4
    subst c4
    have H1 : (some false) = some r := by rw [if_neg (show ¬ (false = true) by decide)] at H; exact H
    clear H
    have H := H1
    clear H1
    obtain rfl := Option.some.inj H
    go_enter Try.func10, Try.ntmps10
    go_wp2_with (first | (go_at_call 18; (with_reducible refine (ontimelaw44_awake.calls k  false _ A3.out).mono ?_); rintro e w119 ⟨rfl, hb⟩; have n0_ := Aside0.mk (below_step (by repeat (first | (with_reducible first | exact HB.out | apply below_alloc | apply pw_below_drewN | apply below_drew1) | exact HB.out)) hb); clear HB; have HB := n0_; clear n0_; (try clear hb); (try clear hb2); (try clear hk); (try clear hi)))
    repeat (go_quiet (first | (go_at_call 18; (with_reducible refine (ontimelaw44_awake.calls k  false _ A3.out).mono ?_); rintro e w119 ⟨rfl, hb⟩; have n0_ := Aside0.mk (below_step (by repeat (first | (with_reducible first | exact HB.out | apply below_alloc | apply pw_below_drewN | apply below_drew1) | exact HB.out)) hb); clear HB; have HB := n0_; clear n0_; (try clear hb); (try clear hb2); (try clear hk); (try clear hi))); try go_wp2_with (first | (go_at_call 18; (with_reducible refine (ontimelaw44_awake.calls k  false _ A3.out).mono ?_); rintro e w119 ⟨rfl, hb⟩; have n0_ := Aside0.mk (below_step (by repeat (first | (with_reducible first | exact HB.out | apply below_alloc | apply pw_below_drewN | apply below_drew1) | exact HB.out)) hb); clear HB; have HB := n0_; clear n0_; (try clear hb); (try clear hb2); (try clear hk); (try clear hi))))
    go_ret
    exact ⟨by first | rfl | (simp [errW_none, errW_some] <;> rfl) | (simp [*, errW_none, errW_some] <;> rfl), by repeat (first | (with_reducible first | exact HB.out | apply below_alloc | apply pw_below_drewN | apply below_drew1) | exact HB.out)⟩

end Go.Proofs.Ytcmifojplgmgkaa.P
