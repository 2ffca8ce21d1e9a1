-- written by wip/drive.py (a driver of this session's own over the kit's print.py)
import Derived.Test.YtcmifojplgmgkaaP0
import Derived.Test.YtcmifojplgmgkaaP3
import Derived.Test.YtcmifojplgmgkaaP8
import Derived.Test.YtcmifojplgmgkaaP10
import Derived.Test.YtcmifojplgmgkaaP16
namespace Go.Proofs.Ytcmifojplgmgkaa.P
open Go.RowKit Go.Proofs.YtcmifojplgmgkaaW.PrintWords Go.Proofs.YtcmifojplgmgkaaW.PrintLast Go.Proofs.YtcmifojplgmgkaaW.PrintMore
attribute [local go_sem] max2_int min2_int max_two min_two max_three min_three max_four min_four   -- for this text's walks alone
set_option linter.unusedVariables false
set_option linter.unusedSimpArgs false

/-! ### ontimelaw44_ResponseExact: function 5 -/
mutual
def ontimelaw44_ResponseExact.j0 : Nat → List (S49) → Int → Bool → Option (Bool)
  | 0, _, _, _ => none
  | k + 1, x0, x1, x34 => if x34 = true then (some true) else (if 0 ≤ (x0.length : Int) then (if ((x0.length : Int) : Int).toNat ≤ 5864062014805 then (if ((x0.length : Int) : Int).toNat ≤ 11728124029610 then (ontimelaw44_ResponseExact.l0 k x1 (List.replicate ((x0.length : Int) : Int).toNat z49) (List.replicate ((x0.length : Int) : Int).toNat []) 0 x0 (x0.length : Int) 0) else (none)) else (none)) else (none))
def ontimelaw44_ResponseExact.l0 : Nat → Int → List (S49) → List (List Int) → Int → List (S49) → Int → Int → Option (Bool)
  | 0, _, _, _, _, _, _, _ => none
  | k + 1, x1, x5, x6, x7, x41, x42, x43 => if x43 < x42 then (if 0 ≤ x43 then (if x43 < (x41.length : Int) then (if x43 < (x5.length : Int) then (ontimelaw44_ResponseExact.l0 k x1 (x5.set (x43 : Int).toNat (⟨(rd_T49 x41 x43).f0, (rd_T49 x41 x43).f1, (rd_T49 x41 x43).f2, ([] : List (S68))⟩ : S49)) x6 (mx x7 ((rd_T49 x41 x43).f2)) x41 x42 (wrap64 (x43 + 1))) else (none)) else (none)) else (none)) else (ontimelaw44_ResponseExact.l1 k x1 x5 x6 x7 x5 (x5.length : Int) 0)
def ontimelaw44_ResponseExact.l1 : Nat → Int → List (S49) → List (List Int) → Int → List (S49) → Int → Int → Option (Bool)
  | 0, _, _, _, _, _, _, _ => none
  | k + 1, x1, x5, x6, x7, x58, x59, x60 => if x60 < x59 then (if 0 ≤ x60 then (if x60 < (x58.length : Int) then (ontimelaw44_ResponseExact.l2 k x1 x5 x6 x7 x60 (wrap64 (x1)) x58 x59 x60 ((rd_T49 x58 x60).f0) ((rd_T49 x58 x60).f1) ((rd_T49 x58 x60).f2) ((rd_T49 x58 x60).f3)) else (none)) else (none)) else ((ceiling_Simulate.f k x5 x6 (wrap64 ((wrap64 (x1)) + x7))).bind fun bt243 => (if bt243.2 = 0 then (ontimelaw44_ResponseExact.l3 k x1 x5 bt243.1 (x5.length : Int) 0) else (some false)))
def ontimelaw44_ResponseExact.l2 : Nat → Int → List (S49) → List (List Int) → Int → Int → Int → List (S49) → Int → Int → Int → Int → Int → List (S68) → Option (Bool)
  | 0, _, _, _, _, _, _, _, _, _, _, _, _, _ => none
  | k + 1, x1, x5, x6, x7, x10, x12, x58, x59, x60, x238000, x238001, x238002, x238003 => if x12 < (wrap64 ((wrap64 (x1)) + x7)) then (if 0 ≤ x10 then (if x10 < (x6.length : Int) then (if (rd_L5 x6 x10).length < 17592186044416 then (ontimelaw44_ResponseExact.l2 k x1 x5 (x6.set (x10 : Int).toNat ((rd_L5 x6 x10) ++ [x12])) x7 x10 (wrap64 (x12 + x238001)) x58 x59 x60 x238000 x238001 x238002 x238003) else (none)) else (none)) else (none)) else (ontimelaw44_ResponseExact.l1 k x1 x5 x6 x7 x58 x59 (wrap64 (x60 + 1)))
def ontimelaw44_ResponseExact.l3 : Nat → Int → List (S49) → List (S34) → Int → Int → Option (Bool)
  | 0, _, _, _, _, _ => none
  | k + 1, x1, x5, x13, x101, x102 => if x102 < x101 then ((response_Response.f k x5 x102).bind fun bt247 => (if bt247.2 = 0 then (ontimelaw44_ResponseExact.l4 k x1 x5 x13 x102 bt247.1 false x101 x102 x13 (x13.length : Int) 0) else (ontimelaw44_ResponseExact.l3 k x1 x5 x13 x101 (wrap64 (x102 + 1))))) else (some true)
def ontimelaw44_ResponseExact.l4 : Nat → Int → List (S49) → List (S34) → Int → Int → Bool → Int → Int → List (S34) → Int → Int → Option (Bool)
  | 0, _, _, _, _, _, _, _, _, _, _, _ => none
  | k + 1, x1, x5, x13, x15, x16, x18, x101, x102, x113, x114, x115 => if x115 < x114 then (if 0 ≤ x115 then (if x115 < (x113.length : Int) then (if ((rd_T34 x113 x115).f0) = x15 then (ontimelaw44_ResponseExact.j6 k x1 x5 x13 x15 x16 x18 x101 x102 x113 x114 x115 (((rd_T34 x113 x115).f1) == (wrap64 (x1))) ((rd_T34 x113 x115).f0) ((rd_T34 x113 x115).f1) ((rd_T34 x113 x115).f2) ((rd_T34 x113 x115).f3) ((rd_T34 x113 x115).f4)) else (ontimelaw44_ResponseExact.j6 k x1 x5 x13 x15 x16 x18 x101 x102 x113 x114 x115 false ((rd_T34 x113 x115).f0) ((rd_T34 x113 x115).f1) ((rd_T34 x113 x115).f2) ((rd_T34 x113 x115).f3) ((rd_T34 x113 x115).f4))) else (none)) else (none)) else (if x18 = true then (ontimelaw44_ResponseExact.l3 k x1 x5 x13 x101 (wrap64 (x102 + 1))) else (some false))
def ontimelaw44_ResponseExact.j6 : Nat → Int → List (S49) → List (S34) → Int → Int → Bool → Int → Int → List (S34) → Int → Int → Bool → Int → Int → Int → Int → Int → Option (Bool)
  | 0, _, _, _, _, _, _, _, _, _, _, _, _, _, _, _, _, _ => none
  | k + 1, x1, x5, x13, x15, x16, x18, x101, x102, x113, x114, x115, x129, x251000, x251001, x251002, x251003, x251004 => if x129 = true then (if (wrap64 (x251003 - x251001)) = x16 then (ontimelaw44_ResponseExact.l4 k x1 x5 x13 x15 x16 true x101 x102 x113 x114 (wrap64 (x115 + 1))) else (some false)) else (ontimelaw44_ResponseExact.l4 k x1 x5 x13 x15 x16 x18 x101 x102 x113 x114 (wrap64 (x115 + 1)))
end
def ontimelaw44_ResponseExact.f (k : Nat) (l0 : List (S49)) (a1 : Int) : Option (Bool) := (ontimelaw44_awake.f k).bind fun t224 => (if t224 = true then ((ontimelaw44_great.f k l0).bind fun t225 => (if t225 = true then (ontimelaw44_ResponseExact.j0 k l0 a1 true) else (if (l0.length : Int) > 6 then (ontimelaw44_ResponseExact.j0 k l0 a1 true) else ((ceiling_Valid.f k l0).bind fun t226 => (ontimelaw44_ResponseExact.j0 k l0 a1 (!t226)))))) else (some false))
theorem ontimelaw44_ResponseExact.mono_l : ∀ k, (∀ y0 y1 y2, LeO (ontimelaw44_ResponseExact.j0 k y0 y1 y2) (ontimelaw44_ResponseExact.j0 (k + 1) y0 y1 y2)) ∧ (∀ y0 y1 y2 y3 y4 y5 y6, LeO (ontimelaw44_ResponseExact.l0 k y0 y1 y2 y3 y4 y5 y6) (ontimelaw44_ResponseExact.l0 (k + 1) y0 y1 y2 y3 y4 y5 y6)) ∧ (∀ y0 y1 y2 y3 y4 y5 y6, LeO (ontimelaw44_ResponseExact.l1 k y0 y1 y2 y3 y4 y5 y6) (ontimelaw44_ResponseExact.l1 (k + 1) y0 y1 y2 y3 y4 y5 y6)) ∧ (∀ y0 y1 y2 y3 y4 y5 y6 y7 y8 y9 y10 y11 y12, LeO (ontimelaw44_ResponseExact.l2 k y0 y1 y2 y3 y4 y5 y6 y7 y8 y9 y10 y11 y12) (ontimelaw44_ResponseExact.l2 (k + 1) y0 y1 y2 y3 y4 y5 y6 y7 y8 y9 y10 y11 y12)) ∧ (∀ y0 y1 y2 y3 y4, LeO (ontimelaw44_ResponseExact.l3 k y0 y1 y2 y3 y4) (ontimelaw44_ResponseExact.l3 (k + 1) y0 y1 y2 y3 y4)) ∧ (∀ y0 y1 y2 y3 y4 y5 y6 y7 y8 y9 y10, LeO (ontimelaw44_ResponseExact.l4 k y0 y1 y2 y3 y4 y5 y6 y7 y8 y9 y10) (ontimelaw44_ResponseExact.l4 (k + 1) y0 y1 y2 y3 y4 y5 y6 y7 y8 y9 y10)) ∧ (∀ y0 y1 y2 y3 y4 y5 y6 y7 y8 y9 y10 y11 y12 y13 y14 y15 y16, LeO (ontimelaw44_ResponseExact.j6 k y0 y1 y2 y3 y4 y5 y6 y7 y8 y9 y10 y11 y12 y13 y14 y15 y16) (ontimelaw44_ResponseExact.j6 (k + 1) y0 y1 y2 y3 y4 y5 y6 y7 y8 y9 y10 y11 y12 y13 y14 y15 y16))
  | 0 => ⟨fun _ _ _ r h => by simp [ontimelaw44_ResponseExact.j0] at h, fun _ _ _ _ _ _ _ r h => by simp [ontimelaw44_ResponseExact.l0] at h, fun _ _ _ _ _ _ _ r h => by simp [ontimelaw44_ResponseExact.l1] at h, fun _ _ _ _ _ _ _ _ _ _ _ _ _ r h => by simp [ontimelaw44_ResponseExact.l2] at h, fun _ _ _ _ _ r h => by simp [ontimelaw44_ResponseExact.l3] at h, fun _ _ _ _ _ _ _ _ _ _ _ r h => by simp [ontimelaw44_ResponseExact.l4] at h, fun _ _ _ _ _ _ _ _ _ _ _ _ _ _ _ _ _ r h => by simp [ontimelaw44_ResponseExact.j6] at h⟩
  | k + 1 => by
    obtain ⟨ih0, ih1, ih2, ih3, ih4, ih5, ih6⟩ := ontimelaw44_ResponseExact.mono_l k
    refine ⟨?_, ?_, ?_, ?_, ?_, ?_, ?_⟩
    · intro y0 y1 y2
      unfold ontimelaw44_ResponseExact.j0
      repeat' first
      | (with_reducible exact ih0 _ _ _)
      | (with_reducible exact ih1 _ _ _ _ _ _ _)
      | (with_reducible exact ih2 _ _ _ _ _ _ _)
      | (with_reducible exact ih3 _ _ _ _ _ _ _ _ _ _ _ _ _)
      | (with_reducible exact ih4 _ _ _ _ _)
      | (with_reducible exact ih5 _ _ _ _ _ _ _ _ _ _ _)
      | (with_reducible exact ih6 _ _ _ _ _ _ _ _ _ _ _ _ _ _ _ _ _)
      | (with_reducible exact ceiling_Simulate.mono _ _ _ _)
      | (with_reducible exact ceiling_Valid.mono _ _)
      | (with_reducible exact ontimelaw44_awake.mono _)
      | (with_reducible exact ontimelaw44_great.mono _ _)
      | (with_reducible exact response_Response.mono _ _ _)
      | (with_reducible exact LeO.refl _)
      | (with_reducible exact LeO.none _)
      | (with_reducible refine LeO.ite ?_ ?_)
      | (with_reducible refine LeO.bind ?_ (fun _ => ?_))
      | exact ih0 _ _ _
      | exact ih1 _ _ _ _ _ _ _
      | exact ih2 _ _ _ _ _ _ _
      | exact ih3 _ _ _ _ _ _ _ _ _ _ _ _ _
      | exact ih4 _ _ _ _ _
      | exact ih5 _ _ _ _ _ _ _ _ _ _ _
      | exact ih6 _ _ _ _ _ _ _ _ _ _ _ _ _ _ _ _ _
      | exact ceiling_Simulate.mono _ _ _ _
      | exact ceiling_Valid.mono _ _
      | exact ontimelaw44_awake.mono _
      | exact ontimelaw44_great.mono _ _
      | exact response_Response.mono _ _ _
      | exact LeO.none _
      | refine LeO.ite ?_ ?_
      | refine LeO.bind ?_ (fun _ => ?_)
    · intro y0 y1 y2 y3 y4 y5 y6
      unfold ontimelaw44_ResponseExact.l0
      repeat' first
      | (with_reducible exact ih0 _ _ _)
      | (with_reducible exact ih1 _ _ _ _ _ _ _)
      | (with_reducible exact ih2 _ _ _ _ _ _ _)
      | (with_reducible exact ih3 _ _ _ _ _ _ _ _ _ _ _ _ _)
      | (with_reducible exact ih4 _ _ _ _ _)
      | (with_reducible exact ih5 _ _ _ _ _ _ _ _ _ _ _)
      | (with_reducible exact ih6 _ _ _ _ _ _ _ _ _ _ _ _ _ _ _ _ _)
      | (with_reducible exact ceiling_Simulate.mono _ _ _ _)
      | (with_reducible exact ceiling_Valid.mono _ _)
      | (with_reducible exact ontimelaw44_awake.mono _)
      | (with_reducible exact ontimelaw44_great.mono _ _)
      | (with_reducible exact response_Response.mono _ _ _)
      | (with_reducible exact LeO.refl _)
      | (with_reducible exact LeO.none _)
      | (with_reducible refine LeO.ite ?_ ?_)
      | (with_reducible refine LeO.bind ?_ (fun _ => ?_))
      | exact ih0 _ _ _
      | exact ih1 _ _ _ _ _ _ _
      | exact ih2 _ _ _ _ _ _ _
      | exact ih3 _ _ _ _ _ _ _ _ _ _ _ _ _
      | exact ih4 _ _ _ _ _
      | exact ih5 _ _ _ _ _ _ _ _ _ _ _
      | exact ih6 _ _ _ _ _ _ _ _ _ _ _ _ _ _ _ _ _
      | exact ceiling_Simulate.mono _ _ _ _
      | exact ceiling_Valid.mono _ _
      | exact ontimelaw44_awake.mono _
      | exact ontimelaw44_great.mono _ _
      | exact response_Response.mono _ _ _
      | exact LeO.none _
      | refine LeO.ite ?_ ?_
      | refine LeO.bind ?_ (fun _ => ?_)
    · intro y0 y1 y2 y3 y4 y5 y6
      unfold ontimelaw44_ResponseExact.l1
      repeat' first
      | (with_reducible exact ih0 _ _ _)
      | (with_reducible exact ih1 _ _ _ _ _ _ _)
      | (with_reducible exact ih2 _ _ _ _ _ _ _)
      | (with_reducible exact ih3 _ _ _ _ _ _ _ _ _ _ _ _ _)
      | (with_reducible exact ih4 _ _ _ _ _)
      | (with_reducible exact ih5 _ _ _ _ _ _ _ _ _ _ _)
      | (with_reducible exact ih6 _ _ _ _ _ _ _ _ _ _ _ _ _ _ _ _ _)
      | (with_reducible exact ceiling_Simulate.mono _ _ _ _)
      | (with_reducible exact ceiling_Valid.mono _ _)
      | (with_reducible exact ontimelaw44_awake.mono _)
      | (with_reducible exact ontimelaw44_great.mono _ _)
      | (with_reducible exact response_Response.mono _ _ _)
      | (with_reducible exact LeO.refl _)
      | (with_reducible exact LeO.none _)
      | (with_reducible refine LeO.ite ?_ ?_)
      | (with_reducible refine LeO.bind ?_ (fun _ => ?_))
      | exact ih0 _ _ _
      | exact ih1 _ _ _ _ _ _ _
      | exact ih2 _ _ _ _ _ _ _
      | exact ih3 _ _ _ _ _ _ _ _ _ _ _ _ _
      | exact ih4 _ _ _ _ _
      | exact ih5 _ _ _ _ _ _ _ _ _ _ _
      | exact ih6 _ _ _ _ _ _ _ _ _ _ _ _ _ _ _ _ _
      | exact ceiling_Simulate.mono _ _ _ _
      | exact ceiling_Valid.mono _ _
      | exact ontimelaw44_awake.mono _
      | exact ontimelaw44_great.mono _ _
      | exact response_Response.mono _ _ _
      | exact LeO.none _
      | refine LeO.ite ?_ ?_
      | refine LeO.bind ?_ (fun _ => ?_)
    · intro y0 y1 y2 y3 y4 y5 y6 y7 y8 y9 y10 y11 y12
      unfold ontimelaw44_ResponseExact.l2
      repeat' first
      | (with_reducible exact ih0 _ _ _)
      | (with_reducible exact ih1 _ _ _ _ _ _ _)
      | (with_reducible exact ih2 _ _ _ _ _ _ _)
      | (with_reducible exact ih3 _ _ _ _ _ _ _ _ _ _ _ _ _)
      | (with_reducible exact ih4 _ _ _ _ _)
      | (with_reducible exact ih5 _ _ _ _ _ _ _ _ _ _ _)
      | (with_reducible exact ih6 _ _ _ _ _ _ _ _ _ _ _ _ _ _ _ _ _)
      | (with_reducible exact ceiling_Simulate.mono _ _ _ _)
      | (with_reducible exact ceiling_Valid.mono _ _)
      | (with_reducible exact ontimelaw44_awake.mono _)
      | (with_reducible exact ontimelaw44_great.mono _ _)
      | (with_reducible exact response_Response.mono _ _ _)
      | (with_reducible exact LeO.refl _)
      | (with_reducible exact LeO.none _)
      | (with_reducible refine LeO.ite ?_ ?_)
      | (with_reducible refine LeO.bind ?_ (fun _ => ?_))
      | exact ih0 _ _ _
      | exact ih1 _ _ _ _ _ _ _
      | exact ih2 _ _ _ _ _ _ _
      | exact ih3 _ _ _ _ _ _ _ _ _ _ _ _ _
      | exact ih4 _ _ _ _ _
      | exact ih5 _ _ _ _ _ _ _ _ _ _ _
      | exact ih6 _ _ _ _ _ _ _ _ _ _ _ _ _ _ _ _ _
      | exact ceiling_Simulate.mono _ _ _ _
      | exact ceiling_Valid.mono _ _
      | exact ontimelaw44_awake.mono _
      | exact ontimelaw44_great.mono _ _
      | exact response_Response.mono _ _ _
      | exact LeO.none _
      | refine LeO.ite ?_ ?_
      | refine LeO.bind ?_ (fun _ => ?_)
    · intro y0 y1 y2 y3 y4
      unfold ontimelaw44_ResponseExact.l3
      repeat' first
      | (with_reducible exact ih0 _ _ _)
      | (with_reducible exact ih1 _ _ _ _ _ _ _)
      | (with_reducible exact ih2 _ _ _ _ _ _ _)
      | (with_reducible exact ih3 _ _ _ _ _ _ _ _ _ _ _ _ _)
      | (with_reducible exact ih4 _ _ _ _ _)
      | (with_reducible exact ih5 _ _ _ _ _ _ _ _ _ _ _)
      | (with_reducible exact ih6 _ _ _ _ _ _ _ _ _ _ _ _ _ _ _ _ _)
      | (with_reducible exact ceiling_Simulate.mono _ _ _ _)
      | (with_reducible exact ceiling_Valid.mono _ _)
      | (with_reducible exact ontimelaw44_awake.mono _)
      | (with_reducible exact ontimelaw44_great.mono _ _)
      | (with_reducible exact response_Response.mono _ _ _)
      | (with_reducible exact LeO.refl _)
      | (with_reducible exact LeO.none _)
      | (with_reducible refine LeO.ite ?_ ?_)
      | (with_reducible refine LeO.bind ?_ (fun _ => ?_))
      | exact ih0 _ _ _
      | exact ih1 _ _ _ _ _ _ _
      | exact ih2 _ _ _ _ _ _ _
      | exact ih3 _ _ _ _ _ _ _ _ _ _ _ _ _
      | exact ih4 _ _ _ _ _
      | exact ih5 _ _ _ _ _ _ _ _ _ _ _
      | exact ih6 _ _ _ _ _ _ _ _ _ _ _ _ _ _ _ _ _
      | exact ceiling_Simulate.mono _ _ _ _
      | exact ceiling_Valid.mono _ _
      | exact ontimelaw44_awake.mono _
      | exact ontimelaw44_great.mono _ _
      | exact response_Response.mono _ _ _
      | exact LeO.none _
      | refine LeO.ite ?_ ?_
      | refine LeO.bind ?_ (fun _ => ?_)
    · intro y0 y1 y2 y3 y4 y5 y6 y7 y8 y9 y10
      unfold ontimelaw44_ResponseExact.l4
      repeat' first
      | (with_reducible exact ih0 _ _ _)
      | (with_reducible exact ih1 _ _ _ _ _ _ _)
      | (with_reducible exact ih2 _ _ _ _ _ _ _)
      | (with_reducible exact ih3 _ _ _ _ _ _ _ _ _ _ _ _ _)
      | (with_reducible exact ih4 _ _ _ _ _)
      | (with_reducible exact ih5 _ _ _ _ _ _ _ _ _ _ _)
      | (with_reducible exact ih6 _ _ _ _ _ _ _ _ _ _ _ _ _ _ _ _ _)
      | (with_reducible exact ceiling_Simulate.mono _ _ _ _)
      | (with_reducible exact ceiling_Valid.mono _ _)
      | (with_reducible exact ontimelaw44_awake.mono _)
      | (with_reducible exact ontimelaw44_great.mono _ _)
      | (with_reducible exact response_Response.mono _ _ _)
      | (with_reducible exact LeO.refl _)
      | (with_reducible exact LeO.none _)
      | (with_reducible refine LeO.ite ?_ ?_)
      | (with_reducible refine LeO.bind ?_ (fun _ => ?_))
      | exact ih0 _ _ _
      | exact ih1 _ _ _ _ _ _ _
      | exact ih2 _ _ _ _ _ _ _
      | exact ih3 _ _ _ _ _ _ _ _ _ _ _ _ _
      | exact ih4 _ _ _ _ _
      | exact ih5 _ _ _ _ _ _ _ _ _ _ _
      | exact ih6 _ _ _ _ _ _ _ _ _ _ _ _ _ _ _ _ _
      | exact ceiling_Simulate.mono _ _ _ _
      | exact ceiling_Valid.mono _ _
      | exact ontimelaw44_awake.mono _
      | exact ontimelaw44_great.mono _ _
      | exact response_Response.mono _ _ _
      | exact LeO.none _
      | refine LeO.ite ?_ ?_
      | refine LeO.bind ?_ (fun _ => ?_)
    · intro y0 y1 y2 y3 y4 y5 y6 y7 y8 y9 y10 y11 y12 y13 y14 y15 y16
      unfold ontimelaw44_ResponseExact.j6
      repeat' first
      | (with_reducible exact ih0 _ _ _)
      | (with_reducible exact ih1 _ _ _ _ _ _ _)
      | (with_reducible exact ih2 _ _ _ _ _ _ _)
      | (with_reducible exact ih3 _ _ _ _ _ _ _ _ _ _ _ _ _)
      | (with_reducible exact ih4 _ _ _ _ _)
      | (with_reducible exact ih5 _ _ _ _ _ _ _ _ _ _ _)
      | (with_reducible exact ih6 _ _ _ _ _ _ _ _ _ _ _ _ _ _ _ _ _)
      | (with_reducible exact ceiling_Simulate.mono _ _ _ _)
      | (with_reducible exact ceiling_Valid.mono _ _)
      | (with_reducible exact ontimelaw44_awake.mono _)
      | (with_reducible exact ontimelaw44_great.mono _ _)
      | (with_reducible exact response_Response.mono _ _ _)
      | (with_reducible exact LeO.refl _)
      | (with_reducible exact LeO.none _)
      | (with_reducible refine LeO.ite ?_ ?_)
      | (with_reducible refine LeO.bind ?_ (fun _ => ?_))
      | exact ih0 _ _ _
      | exact ih1 _ _ _ _ _ _ _
      | exact ih2 _ _ _ _ _ _ _
      | exact ih3 _ _ _ _ _ _ _ _ _ _ _ _ _
      | exact ih4 _ _ _ _ _
      | exact ih5 _ _ _ _ _ _ _ _ _ _ _
      | exact ih6 _ _ _ _ _ _ _ _ _ _ _ _ _ _ _ _ _
      | exact ceiling_Simulate.mono _ _ _ _
      | exact ceiling_Valid.mono _ _
      | exact ontimelaw44_awake.mono _
      | exact ontimelaw44_great.mono _ _
      | exact response_Response.mono _ _ _
      | exact LeO.none _
      | refine LeO.ite ?_ ?_
      | refine LeO.bind ?_ (fun _ => ?_)
theorem ontimelaw44_ResponseExact.mono : ∀ a0 a1 k, LeO (ontimelaw44_ResponseExact.f k a0 a1) (ontimelaw44_ResponseExact.f (k + 1) a0 a1) := by
  intro a0 a1 k
  obtain ⟨ih0, ih1, ih2, ih3, ih4, ih5, ih6⟩ := ontimelaw44_ResponseExact.mono_l k
  unfold ontimelaw44_ResponseExact.f
  repeat' first
      | (with_reducible exact ih0 _ _ _)
      | (with_reducible exact ih1 _ _ _ _ _ _ _)
      | (with_reducible exact ih2 _ _ _ _ _ _ _)
      | (with_reducible exact ih3 _ _ _ _ _ _ _ _ _ _ _ _ _)
      | (with_reducible exact ih4 _ _ _ _ _)
      | (with_reducible exact ih5 _ _ _ _ _ _ _ _ _ _ _)
      | (with_reducible exact ih6 _ _ _ _ _ _ _ _ _ _ _ _ _ _ _ _ _)
      | (with_reducible exact ceiling_Simulate.mono _ _ _ _)
      | (with_reducible exact ceiling_Valid.mono _ _)
      | (with_reducible exact ontimelaw44_awake.mono _)
      | (with_reducible exact ontimelaw44_great.mono _ _)
      | (with_reducible exact response_Response.mono _ _ _)
      | (with_reducible exact LeO.refl _)
      | (with_reducible exact LeO.none _)
      | (with_reducible refine LeO.ite ?_ ?_)
      | (with_reducible refine LeO.bind ?_ (fun _ => ?_))
      | exact ih0 _ _ _
      | exact ih1 _ _ _ _ _ _ _
      | exact ih2 _ _ _ _ _ _ _
      | exact ih3 _ _ _ _ _ _ _ _ _ _ _ _ _
      | exact ih4 _ _ _ _ _
      | exact ih5 _ _ _ _ _ _ _ _ _ _ _
      | exact ih6 _ _ _ _ _ _ _ _ _ _ _ _ _ _ _ _ _
      | exact ceiling_Simulate.mono _ _ _ _
      | exact ceiling_Valid.mono _ _
      | exact ontimelaw44_awake.mono _
      | exact ontimelaw44_great.mono _ _
      | exact response_Response.mono _ _ _
      | exact LeO.none _
      | refine LeO.ite ?_ ?_
      | refine LeO.bind ?_ (fun _ => ?_)
set_option maxHeartbeats 8000000 in
set_option maxRecDepth 100000 in
theorem ontimelaw44_ResponseExact.calls (k : Nat) (A0 : Option Addr) (c0 : Nat) (l0 : List (S49)) (a1 : Int) (r : Bool) (w : World) (hr0 : Kd.C k49 w A0 l0.length l0) (hc0 : l0.length ≤ c0) (h : ontimelaw44_ResponseExact.f k l0 a1 = some r) :
    Calls Try.prog 5 #[.slice A0 l0.length c0, .int .u8 a1] w fun e w' => e = .returned (.bool r) ∧ Below w.heap.size w w' := by
  have hu49 := Try.underlying49
  have hu34 := Try.underlying34
  have HR0 := Aside0.mk hr0
  have HC0 := Aside0.mk hc0
  clear hr0 hc0
  have HB := Aside0.mk (Below.refl w.heap.size w)
  have H : ((ontimelaw44_awake.f k).bind fun t224 => (if t224 = true then ((ontimelaw44_great.f k l0).bind fun t225 => (if t225 = true then (ontimelaw44_ResponseExact.j0 k l0 a1 true) else (if (l0.length : Int) > 6 then (ontimelaw44_ResponseExact.j0 k l0 a1 true) else ((ceiling_Valid.f k l0).bind fun t226 => (ontimelaw44_ResponseExact.j0 k l0 a1 (!t226)))))) else (some false))) = some r := h
  clear h
  replace H := Option.bind_eq_some_iff.mp H
  obtain ⟨t224, A30, H⟩ := H
  replace H : (if t224 = true then ((ontimelaw44_great.f k l0).bind fun t225 => (if t225 = true then (ontimelaw44_ResponseExact.j0 k l0 a1 true) else (if (l0.length : Int) > 6 then (ontimelaw44_ResponseExact.j0 k l0 a1 true) else ((ceiling_Valid.f k l0).bind fun t226 => (ontimelaw44_ResponseExact.j0 k l0 a1 (!t226)))))) else (some false)) = some r := H
  have A3 := Aside0.mk A30
  clear A30
  by_cases c4 : t224 = true
  · subst c4
    have H1 : ((ontimelaw44_great.f k l0).bind fun t225 => (if t225 = true then (ontimelaw44_ResponseExact.j0 k l0 a1 true) else (if (l0.length : Int) > 6 then (ontimelaw44_ResponseExact.j0 k l0 a1 true) else ((ceiling_Valid.f k l0).bind fun t226 => (ontimelaw44_ResponseExact.j0 k l0 a1 (!t226)))))) = some r := by rw [if_pos rfl] at H; exact H
    clear H
    have H := H1
    clear H1
    have HC5 := Aside0.mk H
    clear H
    go_enter Try.func5, Try.ntmps5
    go_upto_region 3 with (first | ((with_reducible refine gate_callee (f := 18) rfl ?_); refine goesL_ (some 21) rfl rfl Try.func18 (by kernel_rfl) rfl #[] rfl (by (try simp only [List.map_toArray, List.map_cons, List.map_nil]); first | done | rfl | (simp only [List.length_drop, List.length_take]; rfl)) ?_; (with_reducible refine (ontimelaw44_awake.calls k  true _ A3.out).mono ?_); rintro e w6 ⟨rfl, hb⟩; refine ⟨_, rfl, ?_⟩; have n0_ := Aside0.mk (below_step (by repeat (first | (with_reducible first | exact HB.out | apply below_alloc | apply pw_below_drewN | apply below_drew1) | exact HB.out)) hb); clear HB; have HB := n0_; clear n0_; (try clear hb); (try clear hb2); (try clear hk); (try clear hi)))
    (try simp only [Act.put, List.setIfInBounds_toArray, List.set_cons_zero, List.set_cons_succ])
    go_cut [34] (fun v34 wc => ∃ (kq : Nat) (x34_4 : Bool), v34 = .bool x34_4 ∧ Aside0 (ontimelaw44_ResponseExact.j0 kq l0 a1 x34_4 = some r) ∧ Aside0 (kq ≤ k) ∧ Aside0 (Below w.heap.size w wc))
    case first =>
      have H := HC5.out
      clear HC5
      replace H := Option.bind_eq_some_iff.mp H
      obtain ⟨t225, A70, H⟩ := H
      replace H : (if t225 = true then (ontimelaw44_ResponseExact.j0 k l0 a1 true) else (if (l0.length : Int) > 6 then (ontimelaw44_ResponseExact.j0 k l0 a1 true) else ((ceiling_Valid.f k l0).bind fun t226 => (ontimelaw44_ResponseExact.j0 k l0 a1 (!t226))))) = some r := H
      have A7 := Aside0.mk A70
      clear A70
      by_cases c8 : t225 = true
      · subst c8
        have H1 : (ontimelaw44_ResponseExact.j0 k l0 a1 true) = some r := by rw [if_pos rfl] at H; exact H
        clear H
        have H := H1
        clear H1
        have H' := Aside0.mk H
        clear H
        go_wp2_with (first | ((with_reducible refine gate_callee (f := 19) rfl ?_); refine goesL_ (some 24) rfl rfl Try.func19 (by kernel_rfl) rfl #[.slice A0 l0.length c0] rfl (by (try simp only [List.map_toArray, List.map_cons, List.map_nil]); first | done | rfl | (simp only [List.length_drop, List.length_take]; rfl)) ?_; (with_reducible refine (ontimelaw44_great.calls k _ _ l0 true _ ?side1 ?side2 A7.out).mono ?_); (case side1 => repeat (first | exact (Kd.C_below HR0.out HB.out) | (with_reducible refine Kd.C_alloc ?_ _) | (with_reducible refine Kd.C_drewN ?_ _) | (with_reducible refine Kd.C_drew ?_))); (case side2 => exact HC0.out); rintro e w9 ⟨rfl, hb⟩; refine ⟨_, rfl, ?_⟩; have n0_ := Aside0.mk (below_step (by repeat (first | (with_reducible first | exact HB.out | apply below_alloc | apply pw_below_drewN | apply below_drew1) | exact HB.out)) hb); clear HB; have HB := n0_; clear n0_; (try clear hb); (try clear hb2); (try clear hk); (try clear hi)))
        go_meet
        case rel => exact ⟨_, (true), (by first | rfl | (simp; done) | (simp [*]; done)), H', ⟨by first | omega | exact Nat.le_refl _⟩, ⟨by repeat (first | (with_reducible first | exact HB.out | apply below_alloc | apply pw_below_drewN | apply below_drew1) | exact HB.out)⟩⟩
      · replace c8 := Bool.eq_false_iff.mpr c8
        subst c8
        have H1 : (if (l0.length : Int) > 6 then (ontimelaw44_ResponseExact.j0 k l0 a1 true) else ((ceiling_Valid.f k l0).bind fun t226 => (ontimelaw44_ResponseExact.j0 k l0 a1 (!t226)))) = some r := by rw [if_neg (show ¬ (false = true) by decide)] at H; exact H
        clear H
        have H := H1
        clear H1
        by_cases c10 : (l0.length : Int) > 6
        · rw [if_pos c10] at H
          have c10b0 : decide (6 < (l0.length : Int)) = true := decide_eq_true c10
          have c10b1 : decide (6 < l0.length) = true := decide_eq_true (by omega)
          clear c10
          (first | rw [c10b0] | (simp only [i64_w, i32_w]; rw [c10b0]) | skip)
          have H' := Aside0.mk H
          clear H
          go_wp2_with (first | ((with_reducible refine gate_callee (f := 19) rfl ?_); refine goesL_ (some 24) rfl rfl Try.func19 (by kernel_rfl) rfl #[.slice A0 l0.length c0] rfl (by (try simp only [List.map_toArray, List.map_cons, List.map_nil]); first | done | rfl | (simp only [List.length_drop, List.length_take]; rfl)) ?_; (with_reducible refine (ontimelaw44_great.calls k _ _ l0 false _ ?side1 ?side2 A7.out).mono ?_); (case side1 => repeat (first | exact (Kd.C_below HR0.out HB.out) | (with_reducible refine Kd.C_alloc ?_ _) | (with_reducible refine Kd.C_drewN ?_ _) | (with_reducible refine Kd.C_drew ?_))); (case side2 => exact HC0.out); rintro e w11 ⟨rfl, hb⟩; refine ⟨_, rfl, ?_⟩; have n0_ := Aside0.mk (below_step (by repeat (first | (with_reducible first | exact HB.out | apply below_alloc | apply pw_below_drewN | apply below_drew1) | exact HB.out)) hb); clear HB; have HB := n0_; clear n0_; (try clear hb); (try clear hb2); (try clear hk); (try clear hi)))
          go_meet
          case rel => exact ⟨_, (true), (by first | rfl | (simp; done) | (simp [*]; done)), H', ⟨by first | omega | exact Nat.le_refl _⟩, ⟨by repeat (first | (with_reducible first | exact HB.out | apply below_alloc | apply pw_below_drewN | apply below_drew1) | exact HB.out)⟩⟩
        · rw [if_neg c10] at H
          have c10b0 : decide (6 < (l0.length : Int)) = false := decide_eq_false c10
          have c10b1 : decide (6 < l0.length) = false := decide_eq_false (by omega)
          clear c10
          (first | rw [c10b0] | (simp only [i64_w, i32_w]; rw [c10b0]) | skip)
          replace H := Option.bind_eq_some_iff.mp H
          obtain ⟨t226, A120, H⟩ := H
          replace H : (ontimelaw44_ResponseExact.j0 k l0 a1 (!t226)) = some r := H
          have A12 := Aside0.mk A120
          clear A120
          have H' := Aside0.mk H
          clear H
          go_wp2_with (first | ((with_reducible refine gate_callee (f := 19) rfl ?_); refine goesL_ (some 24) rfl rfl Try.func19 (by kernel_rfl) rfl #[.slice A0 l0.length c0] rfl (by (try simp only [List.map_toArray, List.map_cons, List.map_nil]); first | done | rfl | (simp only [List.length_drop, List.length_take]; rfl)) ?_; (with_reducible refine (ontimelaw44_great.calls k _ _ l0 false _ ?side1 ?side2 A7.out).mono ?_); (case side1 => repeat (first | exact (Kd.C_below HR0.out HB.out) | (with_reducible refine Kd.C_alloc ?_ _) | (with_reducible refine Kd.C_drewN ?_ _) | (with_reducible refine Kd.C_drew ?_))); (case side2 => exact HC0.out); rintro e w13 ⟨rfl, hb⟩; refine ⟨_, rfl, ?_⟩; have n0_ := Aside0.mk (below_step (by repeat (first | (with_reducible first | exact HB.out | apply below_alloc | apply pw_below_drewN | apply below_drew1) | exact HB.out)) hb); clear HB; have HB := n0_; clear n0_; (try clear hb); (try clear hb2); (try clear hk); (try clear hi)) | (go_at_call 20; (with_reducible refine (ceiling_Valid.calls k _ _ l0 t226 _ ?side1 ?side2 A12.out).mono ?_); (case side1 => repeat (first | exact (Kd.C_below HR0.out HB.out) | (with_reducible refine Kd.C_alloc ?_ _) | (with_reducible refine Kd.C_drewN ?_ _) | (with_reducible refine Kd.C_drew ?_))); (case side2 => exact HC0.out); rintro e w14 ⟨rfl, hb⟩; have n0_ := Aside0.mk (below_step (by repeat (first | (with_reducible first | exact HB.out | apply below_alloc | apply pw_below_drewN | apply below_drew1) | exact HB.out)) hb); clear HB; have HB := n0_; clear n0_; (try clear hb); (try clear hb2); (try clear hk); (try clear hi)))
          go_meet
          case rel => exact ⟨_, (!t226), (by first | rfl | (simp; done) | (simp [*]; done)), H', ⟨by first | omega | exact Nat.le_refl _⟩, ⟨by repeat (first | (with_reducible first | exact HB.out | apply below_alloc | apply pw_below_drewN | apply below_drew1) | exact HB.out)⟩⟩
    case rest =>
      clear HC5
      try clear c1
      try clear p2
      try clear c4
      try clear c5
      try clear c8
      try clear c10
      try clear c10b0
      try clear c10b1
      obtain ⟨kq, x34_4, rfl, HA, HJ4, HB⟩ := hcut
      cases kq with
      | zero => exact absurd HA.out (by simp [ontimelaw44_ResponseExact.j0])
      | succ kj4 =>
        have H := HA.out
        clear HA
        simp only [ontimelaw44_ResponseExact.j0] at H
        by_cases c15 : x34_4 = true
        · subst c15
          have H1 : (some true) = some r := by rw [if_pos rfl] at H; exact H
          clear H
          have H := H1
          clear H1
          obtain rfl := Option.some.inj H
          go_wp2
          go_ret
          exact ⟨by first | rfl | (simp [errW_none, errW_some] <;> rfl) | (simp [*, errW_none, errW_some] <;> rfl), by repeat (first | (with_reducible first | exact HB.out | apply below_alloc | apply pw_below_drewN | apply below_drew1) | exact HB.out)⟩
        · replace c15 := Bool.eq_false_iff.mpr c15
          subst c15
          have H1 : (if 0 ≤ (l0.length : Int) then (if ((l0.length : Int) : Int).toNat ≤ 5864062014805 then (if ((l0.length : Int) : Int).toNat ≤ 11728124029610 then (ontimelaw44_ResponseExact.l0 kj4 a1 (List.replicate ((l0.length : Int) : Int).toNat z49) (List.replicate ((l0.length : Int) : Int).toNat []) 0 l0 (l0.length : Int) 0) else (none)) else (none)) else (none)) = some r := by rw [if_neg (show ¬ (false = true) by decide)] at H; exact H
          clear H
          have H := H1
          clear H1
          by_cases c16 : 0 ≤ (l0.length : Int)
          · rw [if_pos c16] at H
            have c16b0 := eq_true c16
            have c16b1 : decide (0 ≤ (l0.length : Int)) = true := decide_eq_true c16
            clear c16
            by_cases c17 : ((l0.length : Int) : Int).toNat ≤ 5864062014805
            · rw [if_pos c17] at H
              have c17b0 := eq_true c17
              have c17b1 : decide (((l0.length : Int) : Int).toNat ≤ 5864062014805) = true := decide_eq_true c17
              clear c17
              obtain ⟨y227, hy227⟩ : ∃ y_ : List (S49), y_ = (List.replicate ((l0.length : Int) : Int).toNat z49) := ⟨_, rfl⟩
              replace H : (if ((l0.length : Int) : Int).toNat ≤ 11728124029610 then (ontimelaw44_ResponseExact.l0 kj4 a1 y227 (List.replicate ((l0.length : Int) : Int).toNat []) 0 l0 (l0.length : Int) 0) else (none)) = some r := by first | (rw [hy227]; with_reducible exact H) | (have H2_ := (Option.bind_some _ _).symm.trans H; rw [hy227]; with_reducible exact H2_) | (have H2_ := (Option.bind_some _ _).symm.trans H; with_reducible exact H2_) | with_reducible exact H | (rw [hy227]; exact H) | exact H
              have Ny227 := Aside0.mk hy227
              clear hy227
              by_cases c18 : ((l0.length : Int) : Int).toNat ≤ 11728124029610
              · rw [if_pos c18] at H
                have c18b0 := eq_true c18
                have c18b1 : decide (((l0.length : Int) : Int).toNat ≤ 11728124029610) = true := decide_eq_true c18
                clear c18
                obtain ⟨y230, hy230⟩ : ∃ y_ : List (List Int), y_ = (List.replicate ((l0.length : Int) : Int).toNat []) := ⟨_, rfl⟩
                replace H : (ontimelaw44_ResponseExact.l0 kj4 a1 y227 y230 0 l0 (l0.length : Int) 0) = some r := by first | (rw [hy230]; with_reducible exact H) | (have H2_ := (Option.bind_some _ _).symm.trans H; rw [hy230]; with_reducible exact H2_) | (have H2_ := (Option.bind_some _ _).symm.trans H; with_reducible exact H2_) | with_reducible exact H | (rw [hy230]; exact H) | exact H
                have Ny230 := Aside0.mk hy230
                clear hy230
                have H' := Aside0.mk H
                clear H
                go_wp2_with (first | ((with_reducible refine gate_dst (N := 37) rfl ?_); (try (refine gate_guard (by rfl) ?_; dsimp only)); refine Kd.S_make k49 _ 49 rfl (N := 37) rfl 22 _ _ rfl (l0.length : Int) rfl rfl Try.underlying22 (.agg #[(.int .i64 0), (.int .i64 0), (.int .i64 0), (.slice none 0 0)]) 48 info49 rfl (by decide) (by omega) z49 (ok := fun _ => True) (okp := fun _ => True) (k49_mkM _ _ _ z49 (Kd.R_nil _ _ _ _ _)) (fun _ hk => hk) trivial (of_decide_eq_true (by first | (with_reducible assumption) | assumption)) (Nat.le_trans (Nat.mul_le_mul_right _ (of_decide_eq_true (by first | (with_reducible assumption) | assumption) : (l0.length : Int).toNat ≤ 5864062014805)) (by omega)) (Below.refl _ _) (Nat.le_refl _) ?_; intro v228 w19 ho20 hb hg_ hnew_; clear hg_ hnew_; (first | rw [← Ny227.out] at ho20 | (simp only [Int.reduceToNat] at ho20; rw [← Ny227.out] at ho20)); have n0_ := Aside0.mk (Kd.S_lower ho20 (below_size (by repeat (first | (with_reducible first | exact HB.out | apply below_alloc | apply pw_below_drewN | apply below_drew1) | exact HB.out)))); have n1_ := Aside0.mk (below_step (by repeat (first | (with_reducible first | exact HB.out | apply below_alloc | apply pw_below_drewN | apply below_drew1) | exact HB.out)) hb); clear HB; have HO229 := n0_; have HB := n1_; clear n0_ n1_; clear hb ho20) | ((with_reducible refine gate_dst (N := 40) rfl ?_); (try (refine gate_guard (by rfl) ?_; dsimp only)); refine Kd.S_make (Kd.slice 3 (Kd.int .i64)) _ 38 rfl (N := 40) rfl 30 _ _ rfl (l0.length : Int) rfl rfl Try.underlying30 (.slice none 0 0) 24 info38 rfl (by decide) (by omega) [] (ok := fun _ => True) (okp := fun _ => True) ⟨_, rfl, Kd.R_nil _ _ _ _ _⟩ (fun _ hk => hk) trivial (of_decide_eq_true (by first | (with_reducible assumption) | assumption)) (Nat.le_trans (Nat.mul_le_mul_right _ (of_decide_eq_true (by first | (with_reducible assumption) | assumption) : (l0.length : Int).toNat ≤ 11728124029610)) (by omega)) (Below.refl _ _) (Nat.le_refl _) ?_; intro v231 w21 ho22 hb hg_ hnew_; clear hg_ hnew_; (first | rw [← Ny230.out] at ho22 | (simp only [Int.reduceToNat] at ho22; rw [← Ny230.out] at ho22)); have n0_ := Aside0.mk (Kd.S_below (by (with_reducible repeat (first | apply Kd.S_alloc | apply Kd.S_drewN | apply Kd.S_drew)); exact HO229.out) hb); have n1_ := Aside0.mk (Kd.S_lower ho22 (below_size (by repeat (first | (with_reducible first | exact HB.out | apply below_alloc | apply pw_below_drewN | apply below_drew1) | exact HB.out)))); have n2_ := Aside0.mk (below_step (by repeat (first | (with_reducible first | exact HB.out | apply below_alloc | apply pw_below_drewN | apply below_drew1) | exact HB.out)) hb); clear HO229; clear HB; have HO229 := n0_; have HO232 := n1_; have HB := n2_; clear n0_ n1_ n2_; clear hb ho22))
                go_loopg [7, 43] kj4 (fun kq v7 v43 w' => ∃ (x5_2 : List (S49)) (x7_2 : Int) (x43_2 : Int), v7 = .int .i64 x7_2 ∧ v43 = .int .i64 x43_2 ∧ Aside0 (ontimelaw44_ResponseExact.l0 kq a1 x5_2 y230 x7_2 l0 (l0.length : Int) x43_2 = some r) ∧ Aside0 (kq ≤ kj4) ∧ Aside0 (Kd.S k49 49 w' w.heap.size (fun _ => True) v228 x5_2) ∧ Aside0 (Kd.S (Kd.slice 3 (Kd.int .i64)) 38 w' w.heap.size (fun _ => True) v231 y230) ∧ Aside0 (Below w.heap.size w w'))
                case atStart => exact ⟨(y227), (0), (0), (by first | rfl | (simp; done) | (simp [*]; done)), (by first | rfl | (simp; done) | (simp [*]; done)), H', ⟨Nat.le_refl _⟩, ⟨by (with_reducible repeat (first | apply Kd.S_alloc | apply Kd.S_drewN | apply Kd.S_drew)); exact HO229.out⟩, ⟨by (with_reducible repeat (first | apply Kd.S_alloc | apply Kd.S_drewN | apply Kd.S_drew)); exact HO232.out⟩, ⟨by repeat (first | (with_reducible first | exact HB.out | apply below_alloc | apply pw_below_drewN | apply below_drew1) | exact HB.out)⟩⟩
                case round =>
                  clear H'
                  try clear c1
                  try clear p2
                  try clear c4
                  try clear c5
                  try clear c8
                  try clear c10
                  try clear c10b0
                  try clear c10b1
                  try clear c15
                  try clear c16
                  try clear c16b0
                  try clear c16b1
                  try clear c17
                  try clear c17b0
                  try clear c17b1
                  try clear c18
                  try clear c18b0
                  try clear c18b1
                  try clear c19
                  try clear p2
                  obtain ⟨x5_2, x7_2, x43_2, rfl, rfl, HA, HK2, HO_5, HO_6, HB⟩ := hrel
                  cases gk with
                  | zero => exact absurd HA.out (by simp [ontimelaw44_ResponseExact.l0])
                  | succ k2 =>
                    have H := HA.out
                    clear HA
                    simp only [ontimelaw44_ResponseExact.l0] at H
                    by_cases c23 : x43_2 < (l0.length : Int)
                    · rw [if_pos c23] at H
                      have c23b0 : decide (x43_2 < (l0.length : Int)) = true := decide_eq_true c23
                      clear c23
                      by_cases c24 : 0 ≤ x43_2
                      · rw [if_pos c24] at H
                        have c24b0 : decide (0 ≤ x43_2) = true := decide_eq_true c24
                        clear c24
                        by_cases c25 : x43_2 < (l0.length : Int)
                        · rw [if_pos c25] at H
                          have c25b0 : decide (x43_2 < (l0.length : Int)) = true := decide_eq_true c25
                          clear c25
                          by_cases c26 : x43_2 < (x5_2.length : Int)
                          · rw [if_pos c26] at H
                            have c26b0 : decide (x43_2 < (x5_2.length : Int)) = true := decide_eq_true c26
                            clear c26
                            obtain ⟨y235, hy235⟩ : ∃ y_ : List (S49), y_ = (x5_2.set (x43_2 : Int).toNat (⟨(rd_T49 l0 x43_2).f0, (rd_T49 l0 x43_2).f1, (rd_T49 l0 x43_2).f2, ([] : List (S68))⟩ : S49)) := ⟨_, rfl⟩
                            replace H : (ontimelaw44_ResponseExact.l0 k2 a1 y235 y230 (mx x7_2 ((rd_T49 l0 x43_2).f2)) l0 (l0.length : Int) (wrap64 (x43_2 + 1))) = some r := by first | (rw [hy235]; with_reducible exact H) | (have H2_ := (Option.bind_some _ _).symm.trans H; rw [hy235]; with_reducible exact H2_) | (have H2_ := (Option.bind_some _ _).symm.trans H; with_reducible exact H2_) | with_reducible exact H | (rw [hy235]; exact H) | exact H
                            have Ny235 := Aside0.mk hy235
                            clear hy235
                            obtain ⟨ji28, hji28⟩ : ∃ j_ : Int, (mx x7_2 ((rd_T49 l0 x43_2).f2)) = j_ := ⟨_, rfl⟩
                            replace H : (ontimelaw44_ResponseExact.l0 k2 a1 y235 y230 ji28 l0 (l0.length : Int) (wrap64 (x43_2 + 1))) = some r := by first | (rw [hji28] at H; exact H) | (simp only [hji28] at H ⊢; exact H)
                            have hji28_ : (if x7_2 < ((rd_T49 l0 x43_2).f2) then ((rd_T49 l0 x43_2).f2) else x7_2) = ji28 := hji28
                            have H' := Aside0.mk H
                            clear H
                            have p233 : 0 ≤ (x43_2 : Int) := of_decide_eq_true (by first | (with_reducible assumption) | assumption)
                            have q233 : x43_2 < (l0.length : Int) := of_decide_eq_true (by first | (with_reducible assumption) | assumption)
                            obtain ⟨ad233, A233_3, c233_3, e233, hx233_0, hx233_1, hx233_2, hx233_3, hl233_3, hi233_3⟩ := at_T49 HR0.out x43_2 p233 q233
                            cases e233
                            replace hx233_0 := (HB.out.cell (World.block_lt_of_cell? w _ hx233_0)).trans hx233_0
                            replace hx233_1 := (HB.out.cell (World.block_lt_of_cell? w _ hx233_1)).trans hx233_1
                            replace hx233_2 := (HB.out.cell (World.block_lt_of_cell? w _ hx233_2)).trans hx233_2
                            replace hx233_3 := (HB.out.cell (World.block_lt_of_cell? w _ hx233_3)).trans hx233_3
                            have HR233_3 := Aside0.mk hi233_3
                            have HC233_3 := Aside0.mk hl233_3
                            clear hi233_3 hl233_3
                            replace p233 := eq_true p233
                            replace q233 := eq_true q233
                            go_wp2_with (first | ((with_reducible refine gate_dst (N := 9) rfl ?_); (try (refine gate_guard (by rfl) ?_; dsimp only)); refine box_event ?hg (N := 9) ?hd (cs := #[.int .i64 0, .int .i64 0, .int .i64 0, .slice none 0 0]) (t := 49) ?hr ?_; (case hd => rfl); (case hg => rfl); (case hr => first | (go_simp; done) | (go_simp; rfl)); intro gb234 hg w29 hbox hb; have n0_ := Aside0.mk (Kd.S_below (Kd.S_elderB (by (with_reducible repeat (first | apply Kd.S_alloc | apply Kd.S_drewN | apply Kd.S_drew)); exact HO_5.out) gb234 (Nat.le_of_eq hg.symm)) hb); have n1_ := Aside0.mk (Kd.S_below (by (with_reducible repeat (first | apply Kd.S_alloc | apply Kd.S_drewN | apply Kd.S_drew)); exact HO_6.out) hb); have n2_ := Aside0.mk (below_step (by repeat (first | (with_reducible first | exact HB.out | apply below_alloc | apply pw_below_drewN | apply below_drew1) | exact HB.out)) hb); have n3_ := Aside0.mk (hbox); have n4_ := Aside0.mk ((by rw [hg]; exact (below_size (by repeat (first | (with_reducible first | exact HB.out | apply below_alloc | apply pw_below_drewN | apply below_drew1) | exact HB.out))) : w.heap.size ≤ gb234)); have n5_ := Aside0.mk ((by rw [hg]; exact (below_size (by repeat (first | (with_reducible first | exact HB.out | apply below_alloc | apply pw_below_drewN | apply below_drew1) | exact HB.out))) : w.heap.size ≤ gb234)); clear HO_5; clear HO_6; clear HB; have HO_5 := n0_; have HO_6 := n1_; have HB := n2_; have BK234 := n3_; have GW234 := n4_; have GE234 := n5_; clear n0_ n1_ n2_ n3_ n4_ n5_; clear hb hbox hg; have hcz30_0 : w29.cell? ⟨gb234, 0, none⟩ = some (.int .i64 0) := (blk_cell BK234.out 0).trans rfl; have hcz30_1 : w29.cell? ⟨gb234, 1, none⟩ = some (.int .i64 0) := (blk_cell BK234.out 1).trans rfl; have hcz30_2 : w29.cell? ⟨gb234, 2, none⟩ = some (.int .i64 0) := (blk_cell BK234.out 2).trans rfl; have hcz30_3 : w29.cell? ⟨gb234, 3, none⟩ = some (.slice none 0 0) := (blk_cell BK234.out 3).trans rfl; have hfz30_0 := blk_frozen BK234.out 0; have hfz30_1 := blk_frozen BK234.out 1; have hfz30_2 := blk_frozen BK234.out 2; have hfz30_3 := blk_frozen BK234.out 3) | ((with_reducible refine gate_store (t := 49) (p := 9) rfl ?_); refine store_event (t := 49) (p := 9) (v := ?vo_w31) (w1 := ((((w29.setCell ⟨gb234, 0, none⟩ (.int .i64 ((rd_T49 l0 x43_2).f0))).setCell ⟨gb234, 1, none⟩ (.int .i64 ((rd_T49 l0 x43_2).f1))).setCell ⟨gb234, 2, none⟩ (.int .i64 ((rd_T49 l0 x43_2).f2))).setCell ⟨gb234, 3, none⟩ (.slice A233_3 ((rd_T49 l0 x43_2).f3).length c233_3))) ?hg ?ho ?hn ?hr ?_; (case ho => rfl); (case hg => rfl); (case hn => rfl); (case hr => first | (go_simp; done) | (go_simp; rfl)); intro w31 hw; have n0_ : Aside0 (Kd.S k49 49 w31 w.heap.size (fun k_ => k_ ≠ gb234) v228 x5_2) := ⟨(by rw [hw]; exact (by (with_reducible repeat (first | apply Kd.S_alloc | apply Kd.S_drewN | apply Kd.S_drew)); exact Kd.S_mono (Kd.S_far (p := ⟨gb234, 3, none⟩) (Kd.S_far (p := ⟨gb234, 2, none⟩) (Kd.S_far (p := ⟨gb234, 1, none⟩) (Kd.S_far (p := ⟨gb234, 0, none⟩) (Kd.S_mono HO_5.out (fun k_ hk => (⟨hk, hk.2⟩ : _ ∧ k_ ≠ gb234))) (fun _ hk => hk.2) (.int .i64 ((rd_T49 l0 x43_2).f0))) (fun _ hk => hk.2) (.int .i64 ((rd_T49 l0 x43_2).f1))) (fun _ hk => hk.2) (.int .i64 ((rd_T49 l0 x43_2).f2))) (fun _ hk => hk.2) (.slice A233_3 ((rd_T49 l0 x43_2).f3).length c233_3)) (fun _ hk => hk.1.2)))⟩; have n1_ : Aside0 (Kd.S (Kd.slice 3 (Kd.int .i64)) 38 w31 w.heap.size (fun _ => True) v231 y230) := ⟨(by rw [hw]; exact (by (with_reducible repeat (first | apply Kd.S_alloc | apply Kd.S_drewN | apply Kd.S_drew)); exact Kd.S_mono (Kd.S_far (p := ⟨gb234, 3, none⟩) (Kd.S_far (p := ⟨gb234, 2, none⟩) (Kd.S_far (p := ⟨gb234, 1, none⟩) (Kd.S_far (p := ⟨gb234, 0, none⟩) (Kd.S_types HO_6.out BK234.out (by decide)) (fun _ hk => hk.2) (.int .i64 ((rd_T49 l0 x43_2).f0))) (fun _ hk => hk.2) (.int .i64 ((rd_T49 l0 x43_2).f1))) (fun _ hk => hk.2) (.int .i64 ((rd_T49 l0 x43_2).f2))) (fun _ hk => hk.2) (.slice A233_3 ((rd_T49 l0 x43_2).f3).length c233_3)) (fun _ hk => trivial)))⟩; have n2_ : Aside0 (w31.heap[gb234]? = some (.cells #[.int .i64 ((rd_T49 l0 x43_2).f0), .int .i64 ((rd_T49 l0 x43_2).f1), .int .i64 ((rd_T49 l0 x43_2).f2), .slice A233_3 ((rd_T49 l0 x43_2).f3).length c233_3] 49 (0, 0))) := ⟨(by rw [hw]; exact (by (with_reducible repeat (first | refine blk_drewN ?_ _ | refine blk_drew ?_ | refine blk_alloc ?_ _)); refine blk_put (cs := #[.int .i64 ((rd_T49 l0 x43_2).f0), .int .i64 ((rd_T49 l0 x43_2).f1), .int .i64 ((rd_T49 l0 x43_2).f2), .slice none 0 0]) ?_ 3 _ rfl; (with_reducible repeat (first | refine blk_drewN ?_ _ | refine blk_drew ?_ | refine blk_alloc ?_ _)); refine blk_put (cs := #[.int .i64 ((rd_T49 l0 x43_2).f0), .int .i64 ((rd_T49 l0 x43_2).f1), .int .i64 0, .slice none 0 0]) ?_ 2 _ rfl; (with_reducible repeat (first | refine blk_drewN ?_ _ | refine blk_drew ?_ | refine blk_alloc ?_ _)); refine blk_put (cs := #[.int .i64 ((rd_T49 l0 x43_2).f0), .int .i64 0, .int .i64 0, .slice none 0 0]) ?_ 1 _ rfl; (with_reducible repeat (first | refine blk_drewN ?_ _ | refine blk_drew ?_ | refine blk_alloc ?_ _)); refine blk_put (cs := #[.int .i64 0, .int .i64 0, .int .i64 0, .slice none 0 0]) ?_ 0 _ rfl; (with_reducible repeat (first | refine blk_drewN ?_ _ | refine blk_drew ?_ | refine blk_alloc ?_ _)); exact BK234.out))⟩; have n3_ : Aside0 (Below w.heap.size w w31) := ⟨(by rw [hw]; exact (by repeat (first | (with_reducible first | exact HB.out | apply below_alloc | apply pw_below_drewN | apply below_drew1 | refine below_set ?_ GE234.out) | exact HB.out)))⟩; clear hw; clear HO_5; clear HO_6; clear BK234; clear HB; have HO_5 := n0_; have HO_6 := n1_; have BK234 := n2_; have HB := n3_; clear n0_ n1_ n2_ n3_; have hcz32_0 : w31.cell? ⟨gb234, 0, none⟩ = some (.int .i64 ((rd_T49 l0 x43_2).f0)) := (blk_cell BK234.out 0).trans rfl; have hcz32_1 : w31.cell? ⟨gb234, 1, none⟩ = some (.int .i64 ((rd_T49 l0 x43_2).f1)) := (blk_cell BK234.out 1).trans rfl; have hcz32_2 : w31.cell? ⟨gb234, 2, none⟩ = some (.int .i64 ((rd_T49 l0 x43_2).f2)) := (blk_cell BK234.out 2).trans rfl; have hcz32_3 : w31.cell? ⟨gb234, 3, none⟩ = some (.slice A233_3 ((rd_T49 l0 x43_2).f3).length c233_3) := (blk_cell BK234.out 3).trans rfl; have hfz32_0 := blk_frozen BK234.out 0; have hfz32_1 := blk_frozen BK234.out 1; have hfz32_2 := blk_frozen BK234.out 2; have hfz32_3 := blk_frozen BK234.out 3) | ((with_reducible refine gate_store (t := 47) (p := 48) rfl ?_); refine store_event (t := 47) (p := 48) (v := ?vo_w33) (w1 := (w31.setCell ⟨gb234, 3, none⟩ (.slice none 0 0))) ?hg ?ho ?hn ?hr ?_; (case ho => rfl); (case hg => rfl); (case hn => rfl); (case hr => first | (go_simp; done) | (go_simp; rfl)); intro w33 hw; have n0_ : Aside0 (Kd.S k49 49 w33 w.heap.size (fun k_ => k_ ≠ gb234) v228 x5_2) := ⟨(by rw [hw]; exact (by (with_reducible repeat (first | apply Kd.S_alloc | apply Kd.S_drewN | apply Kd.S_drew)); exact Kd.S_mono (Kd.S_far (p := ⟨gb234, 3, none⟩) (Kd.S_mono HO_5.out (fun k_ hk => (⟨hk, hk⟩ : _ ∧ k_ ≠ gb234))) (fun _ hk => hk.2) (.slice none 0 0)) (fun _ hk => hk.1)))⟩; have n1_ : Aside0 (Kd.S (Kd.slice 3 (Kd.int .i64)) 38 w33 w.heap.size (fun _ => True) v231 y230) := ⟨(by rw [hw]; exact (by (with_reducible repeat (first | apply Kd.S_alloc | apply Kd.S_drewN | apply Kd.S_drew)); exact Kd.S_mono (Kd.S_far (p := ⟨gb234, 3, none⟩) (Kd.S_types HO_6.out BK234.out (by decide)) (fun _ hk => hk.2) (.slice none 0 0)) (fun _ hk => trivial)))⟩; have n2_ : Aside0 (w33.heap[gb234]? = some (.cells #[.int .i64 ((rd_T49 l0 x43_2).f0), .int .i64 ((rd_T49 l0 x43_2).f1), .int .i64 ((rd_T49 l0 x43_2).f2), .slice none 0 0] 49 (0, 0))) := ⟨(by rw [hw]; exact (by (with_reducible repeat (first | refine blk_drewN ?_ _ | refine blk_drew ?_ | refine blk_alloc ?_ _)); refine blk_put (cs := #[.int .i64 ((rd_T49 l0 x43_2).f0), .int .i64 ((rd_T49 l0 x43_2).f1), .int .i64 ((rd_T49 l0 x43_2).f2), .slice A233_3 ((rd_T49 l0 x43_2).f3).length c233_3]) ?_ 3 _ rfl; (with_reducible repeat (first | refine blk_drewN ?_ _ | refine blk_drew ?_ | refine blk_alloc ?_ _)); exact BK234.out))⟩; have n3_ : Aside0 (Below w.heap.size w w33) := ⟨(by rw [hw]; exact (by repeat (first | (with_reducible first | exact HB.out | apply below_alloc | apply pw_below_drewN | apply below_drew1 | refine below_set ?_ GE234.out) | exact HB.out)))⟩; clear hw; clear HO_5; clear HO_6; clear BK234; clear HB; have HO_5 := n0_; have HO_6 := n1_; have BK234 := n2_; have HB := n3_; clear n0_ n1_ n2_ n3_; have hcz34_0 : w33.cell? ⟨gb234, 0, none⟩ = some (.int .i64 ((rd_T49 l0 x43_2).f0)) := (blk_cell BK234.out 0).trans rfl; have hcz34_1 : w33.cell? ⟨gb234, 1, none⟩ = some (.int .i64 ((rd_T49 l0 x43_2).f1)) := (blk_cell BK234.out 1).trans rfl; have hcz34_2 : w33.cell? ⟨gb234, 2, none⟩ = some (.int .i64 ((rd_T49 l0 x43_2).f2)) := (blk_cell BK234.out 2).trans rfl; have hcz34_3 : w33.cell? ⟨gb234, 3, none⟩ = some (.slice none 0 0) := (blk_cell BK234.out 3).trans rfl; have hfz34_0 := blk_frozen BK234.out 0; have hfz34_1 := blk_frozen BK234.out 1; have hfz34_2 := blk_frozen BK234.out 2; have hfz34_3 := blk_frozen BK234.out 3; have p27 : 0 ≤ (x43_2 : Int) := of_decide_eq_true (by first | (with_reducible assumption) | assumption); have q27 : (x43_2 : Int) < ((x5_2.length : Int) : Int) := of_decide_eq_true (by first | (with_reducible assumption) | assumption); obtain ⟨go27, co27, eo27, gb27, gl27, cl27, HG27⟩ := Kd.S_form HO_5.out (by omega); (first | cases eo27 | (injection eo27 with ea_ en_ ec_; (first | subst ea_ | (injection ea_ with ea_; subst ea_)); subst ec_; clear en_)); have GB27 := Aside0.mk gb27; have GG27 := Aside0.mk HG27; clear gb27 gl27 HG27; obtain ⟨_, ce27, hcl27, hM27, hcc27, hfr27, _, _⟩ := Kd.S_elem HO_5.out z49 (x43_2 : Int) p27 q27; obtain ⟨ve27_3, rfl, ge27_3⟩ := k49_openM hM27; have hx27_0 : w33.cell? ⟨go27, (x43_2 : Int).toNat * 4, none⟩ = some (.int .i64 ((rd_T49 x5_2 x43_2).f0)) := hcc27 0 _ rfl; have hx27_1 : w33.cell? ⟨go27, (x43_2 : Int).toNat * 4 + 1, none⟩ = some (.int .i64 ((rd_T49 x5_2 x43_2).f1)) := hcc27 1 _ rfl; have hx27_2 : w33.cell? ⟨go27, (x43_2 : Int).toNat * 4 + 2, none⟩ = some (.int .i64 ((rd_T49 x5_2 x43_2).f2)) := hcc27 2 _ rfl; have hx27_3 : w33.cell? ⟨go27, (x43_2 : Int).toNat * 4 + 3, none⟩ = some (ve27_3) := hcc27 3 _ rfl; have hf27_0 : w33.frozen? ⟨go27, (x43_2 : Int).toNat * 4, none⟩ = false := hfr27 0; have hf27_1 : w33.frozen? ⟨go27, (x43_2 : Int).toNat * 4 + 1, none⟩ = false := hfr27 1; have hf27_2 : w33.frozen? ⟨go27, (x43_2 : Int).toNat * 4 + 2, none⟩ = false := hfr27 2; have hf27_3 : w33.frozen? ⟨go27, (x43_2 : Int).toNat * 4 + 3, none⟩ = false := hfr27 3; clear hcl27 hcc27 hfr27 hM27; replace p27 := eq_true p27; replace q27 := eq_true q27; have HX35 := Aside0.mk (show Kd.S k49 49 w33 w.heap.size (fun k_ => ((fun k_ => k_ ≠ gb234)) k_ ∧ ¬ ((fun _ => False)) k_) (.slice (some ⟨go27, 0, none⟩) x5_2.length co27) x5_2 from (by (with_reducible repeat (first | apply Kd.S_alloc | apply Kd.S_drewN | apply Kd.S_drew)); exact Kd.S_mono HO_5.out (fun k_ hk => ⟨hk, fun e_ => e_⟩))); obtain ⟨oki35, ce35, hcl35, hM35, hcc35, hfr35, hoki35, hH35⟩ := Kd.S_elem HX35.out z49 (x43_2 : Int) (of_decide_eq_true (by first | (with_reducible assumption) | assumption)) (by have h_ : (x43_2 : Int) < ((x5_2.length : Int) : Int) := of_decide_eq_true (by first | (with_reducible assumption) | assumption); first | exact h_ | (have e_ := (Kd.S_reads' HO_5.out).1; omega) | simpa using h_); obtain ⟨ve35_3, rfl, ge35_3⟩ := k49_openM hM35; have HP35 := Kd.S_seg hH35 (of_decide_eq_true (by first | (with_reducible assumption) | assumption)) (by have h_ : (x43_2 : Int) < ((x5_2.length : Int) : Int) := of_decide_eq_true (by first | (with_reducible assumption) | assumption); first | exact h_ | (have e_ := (Kd.S_reads' HO_5.out).1; omega) | simpa using h_) (seg := [.int .i64 ((rd_T49 l0 x43_2).f0), .int .i64 ((rd_T49 l0 x43_2).f1), .int .i64 ((rd_T49 l0 x43_2).f2), .slice none 0 0]) (j := 0) (show 4 ≤ 4 from by decide) (x' := (⟨(rd_T49 l0 x43_2).f0, (rd_T49 l0 x43_2).f1, (rd_T49 l0 x43_2).f2, ([] : List (S68))⟩ : S49)) (k49_mkM _ _ _ (⟨(rd_T49 l0 x43_2).f0, (rd_T49 l0 x43_2).f1, (rd_T49 l0 x43_2).f2, ([] : List (S68))⟩ : S49) (Kd.R_nil _ _ _ _ _)) (fun _ hk => hk) (fun k_ hk_ => hk_.elim); have hx35_0 := hcc35 0 _ rfl; (try simp only [show (k49).sz = 4 from rfl, Nat.mul_one, Nat.add_zero] at hx35_0); have hf35_0 := hfr35 0; (try simp only [show (k49).sz = 4 from rfl, Nat.mul_one, Nat.add_zero] at hf35_0); have hx35_1 := hcc35 1 _ rfl; (try simp only [show (k49).sz = 4 from rfl, Nat.mul_one, Nat.add_zero] at hx35_1); have hf35_1 := hfr35 1; (try simp only [show (k49).sz = 4 from rfl, Nat.mul_one, Nat.add_zero] at hf35_1); have hx35_2 := hcc35 2 _ rfl; (try simp only [show (k49).sz = 4 from rfl, Nat.mul_one, Nat.add_zero] at hx35_2); have hf35_2 := hfr35 2; (try simp only [show (k49).sz = 4 from rfl, Nat.mul_one, Nat.add_zero] at hf35_2); have hx35_3 := hcc35 3 _ rfl; (try simp only [show (k49).sz = 4 from rfl, Nat.mul_one, Nat.add_zero] at hx35_3); have hf35_3 := hfr35 3; (try simp only [show (k49).sz = 4 from rfl, Nat.mul_one, Nat.add_zero] at hf35_3); clear hcl35 hcc35 hfr35 hM35 hoki35 hH35) | ((with_reducible refine gate_store (t := 49) (p := 52) rfl ?_); refine store_event (t := 49) (p := 52) (v := ?vo_w36) (w1 := ((((w33.setCell ⟨go27, (x43_2 : Int).toNat * 4, none⟩ (.int .i64 ((rd_T49 l0 x43_2).f0))).setCell ⟨go27, (x43_2 : Int).toNat * 4 + 1, none⟩ (.int .i64 ((rd_T49 l0 x43_2).f1))).setCell ⟨go27, (x43_2 : Int).toNat * 4 + 2, none⟩ (.int .i64 ((rd_T49 l0 x43_2).f2))).setCell ⟨go27, (x43_2 : Int).toNat * 4 + 3, none⟩ (.slice none 0 0))) ?hg ?ho ?hn ?hr ?_; (case ho => rfl); (case hg => rfl); (case hn => rfl); (case hr => first | (go_simp; done) | (go_simp; rfl)); intro w36 hw; have hg : w33.grownBy w36 (some go27) := (by rw [hw]; exact HP35.2); have hp_ : Kd.S k49 49 w36 w.heap.size (fun k_ => k_ ≠ gb234) (.slice (some ⟨go27, 0, none⟩) x5_2.length co27) y235 := (by rw [hw, Ny235.out]; exact HP35.1); clear HP35; have n0_ := Aside0.mk (hp_); have n1_ := Aside0.mk (Kd.S_over' (v := (.slice (some ⟨go27, 0, none⟩) x5_2.length co27)) (by (with_reducible repeat (first | apply Kd.S_alloc | apply Kd.S_drewN | apply Kd.S_drew)); exact HO_6.out) (Kd.S_typed HO_5.out) (by decide) hg); have n2_ := Aside0.mk (blk_grown (g := gb234) (o := .cells #[.int .i64 ((rd_T49 l0 x43_2).f0), .int .i64 ((rd_T49 l0 x43_2).f1), .int .i64 ((rd_T49 l0 x43_2).f2), .slice none 0 0] 49 (0, 0)) (by (with_reducible repeat (first | refine blk_drewN ?_ _ | refine blk_drew ?_ | refine blk_alloc ?_ _)); exact BK234.out) hg (Kd.S_away HO_5.out (fun _ hk => hk))); have n3_ := Aside0.mk ((by rw [hw]; exact below_set (below_set (below_set (below_set (HB.out) GB27.out) GB27.out) GB27.out) GB27.out : Below w.heap.size w w36)); clear HO_5; clear HO_6; clear BK234; clear HB; have HO_5 := n0_; have HO_6 := n1_; have BK234 := n2_; have HB := n3_; clear n0_ n1_ n2_ n3_; clear hg hw hp_; have hcz37_0 : w36.cell? ⟨gb234, 0, none⟩ = some (.int .i64 ((rd_T49 l0 x43_2).f0)) := (blk_cell BK234.out 0).trans rfl; have hcz37_1 : w36.cell? ⟨gb234, 1, none⟩ = some (.int .i64 ((rd_T49 l0 x43_2).f1)) := (blk_cell BK234.out 1).trans rfl; have hcz37_2 : w36.cell? ⟨gb234, 2, none⟩ = some (.int .i64 ((rd_T49 l0 x43_2).f2)) := (blk_cell BK234.out 2).trans rfl; have hcz37_3 : w36.cell? ⟨gb234, 3, none⟩ = some (.slice none 0 0) := (blk_cell BK234.out 3).trans rfl; have hfz37_0 := blk_frozen BK234.out 0; have hfz37_1 := blk_frozen BK234.out 1; have hfz37_2 := blk_frozen BK234.out 2; have hfz37_3 := blk_frozen BK234.out 3))
                            go_roundg k2
                            case measure => have := HJ4.out; have := HK2.out; omega
                            case rel => exact ⟨(y235), (ji28), (wrap64 (x43_2 + 1)), (by first | rfl | (simp; done) | (simp only [← hji28] <;> (first | rfl | simp)) | (simp [*]; done)), (by first | rfl | (simp; done) | (simp [*]; done)), H', ⟨by have := HJ4.out; have := HK2.out; omega⟩, ⟨by (with_reducible repeat (first | apply Kd.S_alloc | apply Kd.S_drewN | apply Kd.S_drew)); exact Kd.S_mono HO_5.out (fun _ hk => trivial)⟩, ⟨by (with_reducible repeat (first | apply Kd.S_alloc | apply Kd.S_drewN | apply Kd.S_drew)); exact HO_6.out⟩, ⟨by repeat (first | (with_reducible first | exact HB.out | apply below_alloc | apply pw_below_drewN | apply below_drew1 | refine below_set ?_ GE234.out) | exact HB.out)⟩⟩
                          · rw [if_neg c26] at H
                            exact absurd H (by simp)
                        · rw [if_neg c25] at H
                          exact absurd H (by simp)
                      · rw [if_neg c24] at H
                        exact absurd H (by simp)
                    · rw [if_neg c23] at H
                      have c23b0 : decide (x43_2 < (l0.length : Int)) = false := decide_eq_false c23
                      clear c23
                      have H' := Aside0.mk H
                      clear H
                      obtain ⟨Ao38, co38, eo38⟩ := Kd.S_slice HO_5.out
                      subst eo38
                      go_wp2
                      go_loopg [60] k2 (fun kq v60 w' => ∃ (x6_3 : List (List Int)) (x60_3 : Int), v60 = .int .i64 x60_3 ∧ Aside0 (ontimelaw44_ResponseExact.l1 kq a1 x5_2 x6_3 x7_2 x5_2 (x5_2.length : Int) x60_3 = some r) ∧ Aside0 (kq ≤ k2) ∧ Aside0 (Kd.S k49 49 w' w.heap.size (fun _ => True) (.slice Ao38 x5_2.length co38) x5_2) ∧ Aside0 (Kd.S (Kd.slice 3 (Kd.int .i64)) 38 w' w.heap.size (fun _ => True) v231 x6_3) ∧ Aside0 (Kd.S k49 49 w' w.heap.size (fun _ => True) (.slice Ao38 x5_2.length co38) x5_2) ∧ Aside0 (Below w.heap.size w w'))
                      case atStart => exact ⟨(y230), (0), (by first | rfl | (simp; done) | (simp [*]; done)), H', ⟨Nat.le_refl _⟩, ⟨by (with_reducible repeat (first | apply Kd.S_alloc | apply Kd.S_drewN | apply Kd.S_drew)); exact HO_5.out⟩, ⟨by (with_reducible repeat (first | apply Kd.S_alloc | apply Kd.S_drewN | apply Kd.S_drew)); exact HO_6.out⟩, ⟨by (with_reducible repeat (first | apply Kd.S_alloc | apply Kd.S_drewN | apply Kd.S_drew)); exact HO_5.out⟩, ⟨by repeat (first | (with_reducible first | exact HB.out | apply below_alloc | apply pw_below_drewN | apply below_drew1) | exact HB.out)⟩⟩
                      case round =>
                        clear H'
                        try clear c1
                        try clear c2
                        try clear p2
                        try clear q2
                        try clear hx2
                        try clear hf2
                        try clear c3
                        try clear hx3
                        try clear hf3
                        try clear c4
                        try clear c5
                        try clear p6
                        try clear c8
                        try clear c10
                        try clear c10b0
                        try clear c10b1
                        try clear c15
                        try clear c16
                        try clear c16b0
                        try clear c16b1
                        try clear c17
                        try clear c17b0
                        try clear c17b1
                        try clear c18
                        try clear c18b0
                        try clear c18b1
                        try clear c19
                        try clear c23
                        try clear c23b0
                        try clear p23
                        try clear q23
                        try clear hx23
                        try clear c24
                        try clear c24b0
                        try clear c25
                        try clear c25b0
                        try clear c26
                        try clear c26b0
                        try clear c27
                        try clear p27
                        try clear q27
                        try clear hx27
                        try clear hf27
                        try clear c35
                        try clear hx35
                        try clear hf35
                        try clear hcz30_0
                        try clear hcz30_1
                        try clear hcz30_2
                        try clear hcz30_3
                        try clear hcz32_0
                        try clear hcz32_1
                        try clear hcz32_2
                        try clear hcz32_3
                        try clear hcz34_0
                        try clear hcz34_1
                        try clear hcz34_2
                        try clear hcz34_3
                        try clear hcz37_0
                        try clear hcz37_1
                        try clear hcz37_2
                        try clear hcz37_3
                        try clear hfz30_0
                        try clear hfz30_1
                        try clear hfz30_2
                        try clear hfz30_3
                        try clear hfz32_0
                        try clear hfz32_1
                        try clear hfz32_2
                        try clear hfz32_3
                        try clear hfz34_0
                        try clear hfz34_1
                        try clear hfz34_2
                        try clear hfz34_3
                        try clear hfz37_0
                        try clear hfz37_1
                        try clear hfz37_2
                        try clear hfz37_3
                        try clear hx233_0
                        try clear hx233_1
                        try clear hx233_2
                        try clear hx233_3
                        try clear hx27_0
                        try clear hx27_1
                        try clear hx27_2
                        try clear hx27_3
                        try clear hx35_0
                        try clear hx35_1
                        try clear hx35_2
                        try clear hx35_3
                        try clear p2
                        try clear p233
                        try clear p27
                        try clear q233
                        try clear q27
                        obtain ⟨x6_3, x60_3, rfl, HA, HK3, HO_5, HO_6, HO_58, HB⟩ := hrel
                        cases gk with
                        | zero => exact absurd HA.out (by simp [ontimelaw44_ResponseExact.l1])
                        | succ k3 =>
                          have H := HA.out
                          clear HA
                          simp only [ontimelaw44_ResponseExact.l1] at H
                          by_cases c39 : x60_3 < (x5_2.length : Int)
                          · rw [if_pos c39] at H
                            have c39b0 : decide (x60_3 < (x5_2.length : Int)) = true := decide_eq_true c39
                            clear c39
                            by_cases c40 : 0 ≤ x60_3
                            · rw [if_pos c40] at H
                              have c40b0 : decide (0 ≤ x60_3) = true := decide_eq_true c40
                              clear c40
                              by_cases c41 : x60_3 < (x5_2.length : Int)
                              · rw [if_pos c41] at H
                                have c41b0 : decide (x60_3 < (x5_2.length : Int)) = true := decide_eq_true c41
                                clear c41
                                have H' := Aside0.mk H
                                clear H
                                have p236 : 0 ≤ (x60_3 : Int) := of_decide_eq_true (by first | (with_reducible assumption) | assumption)
                                have q236 : x60_3 < (x5_2.length : Int) := of_decide_eq_true (by first | (with_reducible assumption) | assumption)
                                obtain ⟨ad236, A236_3, c236_3, e236, hx236_0, hx236_1, hx236_2, hx236_3, hl236_3, hi236_3⟩ := at_T49 (Kd.S_reads' HO_58.out).2.2 x60_3 p236 q236
                                cases e236
                                obtain ⟨ce236, hce236, hMe236, hcc236⟩ := Kd.S_get HO_58.out z49 x60_3 p236 (by first | exact q236 | exact of_decide_eq_true (by first | (with_reducible assumption) | assumption) | (have e_ := (Kd.S_reads' HO_58.out).1; omega))
                                obtain ⟨ve236_3, rfl, ge236_3⟩ := k49_openM hMe236
                                have hv236_3 := hcc236 3 _ rfl
                                rw [add_field _ _ 3 (by omega)] at hv236_3
                                replace hv236_3 := Option.some.inj (hv236_3.symm.trans hx236_3)
                                rw [hv236_3] at ge236_3
                                have HL236_3 := Aside0.mk (show Kd.R k68 68 _ _ _ _ ((rd_T49 x5_2 x60_3).f3) from ge236_3)
                                clear hv236_3 ge236_3
                                have HX236_3 := Aside0.mk hx236_3
                                clear hcc236 hce236
                                have HR236_3 := Aside0.mk hi236_3
                                have HC236_3 := Aside0.mk hl236_3
                                clear hi236_3 hl236_3
                                replace p236 := eq_true p236
                                replace q236 := eq_true q236
                                go_wp2_with (first | ((with_reducible refine gate_dst (N := 11) rfl ?_); (try (refine gate_guard (by rfl) ?_; dsimp only)); refine box_event ?hg (N := 11) ?hd (cs := #[.int .i64 0, .int .i64 0, .int .i64 0, .slice none 0 0]) (t := 49) ?hr ?_; (case hd => rfl); (case hg => rfl); (case hr => first | (go_simp; done) | (go_simp; rfl)); intro gb237 hg w42 hbox hb; have n0_ := Aside0.mk (Kd.S_below (Kd.S_elderB (by (with_reducible repeat (first | apply Kd.S_alloc | apply Kd.S_drewN | apply Kd.S_drew)); exact HO_5.out) gb237 (Nat.le_of_eq hg.symm)) hb); have n1_ := Aside0.mk (Kd.S_below (by (with_reducible repeat (first | apply Kd.S_alloc | apply Kd.S_drewN | apply Kd.S_drew)); exact HO_6.out) hb); have n2_ := Aside0.mk (Kd.S_below (Kd.S_elderB (by (with_reducible repeat (first | apply Kd.S_alloc | apply Kd.S_drewN | apply Kd.S_drew)); exact HO_58.out) gb237 (Nat.le_of_eq hg.symm)) hb); have n3_ := Aside0.mk (Kd.R_below (by (with_reducible repeat (first | apply Kd.R_alloc | apply Kd.R_drewN | apply Kd.R_drew)); exact HL236_3.out) hb); have n4_ := Aside0.mk (Kd.C_below (by repeat (first | (with_reducible exact HR236_3.out) | (with_reducible refine Kd.C_alloc ?_ _) | (with_reducible refine Kd.C_drewN ?_ _) | (with_reducible refine Kd.C_drew ?_) | exact HR236_3.out)) hb); have n5_ := Aside0.mk (pw_cell_below hb HX236_3.out); have n6_ := Aside0.mk (below_step (by repeat (first | (with_reducible first | exact HB.out | apply below_alloc | apply pw_below_drewN | apply below_drew1) | exact HB.out)) hb); have n7_ := Aside0.mk (hbox); have n8_ := Aside0.mk ((by rw [hg]; exact (below_size (by repeat (first | (with_reducible first | exact HB.out | apply below_alloc | apply pw_below_drewN | apply below_drew1) | exact HB.out))) : w.heap.size ≤ gb237)); have n9_ := Aside0.mk ((by rw [hg]; exact (below_size (by repeat (first | (with_reducible first | exact HB.out | apply below_alloc | apply pw_below_drewN | apply below_drew1) | exact HB.out))) : w.heap.size ≤ gb237)); clear HO_5; clear HO_6; clear HO_58; clear HL236_3; clear HR236_3; clear HX236_3; clear HB; have HO_5 := n0_; have HO_6 := n1_; have HO_58 := n2_; have HL236_3 := n3_; have HR236_3 := n4_; have HX236_3 := n5_; have HB := n6_; have BK237 := n7_; have GW237 := n8_; have GE237 := n9_; clear n0_ n1_ n2_ n3_ n4_ n5_ n6_ n7_ n8_ n9_; clear hb hbox hg; have hcz43_0 : w42.cell? ⟨gb237, 0, none⟩ = some (.int .i64 0) := (blk_cell BK237.out 0).trans rfl; have hcz43_1 : w42.cell? ⟨gb237, 1, none⟩ = some (.int .i64 0) := (blk_cell BK237.out 1).trans rfl; have hcz43_2 : w42.cell? ⟨gb237, 2, none⟩ = some (.int .i64 0) := (blk_cell BK237.out 2).trans rfl; have hcz43_3 : w42.cell? ⟨gb237, 3, none⟩ = some (.slice none 0 0) := (blk_cell BK237.out 3).trans rfl; have hfz43_0 := blk_frozen BK237.out 0; have hfz43_1 := blk_frozen BK237.out 1; have hfz43_2 := blk_frozen BK237.out 2; have hfz43_3 := blk_frozen BK237.out 3))
                                go_loopg [12] k3 (fun kq v12 w' => ∃ (x6_4 : List (List Int)) (x12_4 : Int), v12 = .int .i64 x12_4 ∧ Aside0 (ontimelaw44_ResponseExact.l2 kq a1 x5_2 x6_4 x7_2 x60_3 x12_4 x5_2 (x5_2.length : Int) x60_3 ((rd_T49 x5_2 x60_3).f0) ((rd_T49 x5_2 x60_3).f1) ((rd_T49 x5_2 x60_3).f2) ((rd_T49 x5_2 x60_3).f3) = some r) ∧ Aside0 (kq ≤ k3) ∧ Aside0 (Kd.S k49 49 w' w.heap.size (fun k_ => k_ ≠ gb237) (.slice (some ad236) x5_2.length co38) x5_2) ∧ Aside0 (Kd.S (Kd.slice 3 (Kd.int .i64)) 38 w' w.heap.size (fun _ => True) v231 x6_4) ∧ Aside0 (Kd.S k49 49 w' w.heap.size (fun k_ => k_ ≠ gb237) (.slice (some ad236) x5_2.length co38) x5_2) ∧ Aside0 (w'.heap[gb237]? = some (.cells #[.int .i64 ((rd_T49 x5_2 x60_3).f0), .int .i64 ((rd_T49 x5_2 x60_3).f1), .int .i64 ((rd_T49 x5_2 x60_3).f2), (.slice A236_3 ((rd_T49 x5_2 x60_3).f3).length c236_3)] 49 (0, 0))) ∧ Aside0 (Below w.heap.size w w'))
                                case atStart => exact ⟨(x6_3), (wrap64 (a1)), (by first | rfl | (simp; done) | (simp [*]; done)), H', ⟨Nat.le_refl _⟩, ⟨by (with_reducible repeat (first | apply Kd.S_alloc | apply Kd.S_drewN | apply Kd.S_drew)); exact Kd.S_mono (Kd.S_far (p := ⟨gb237, 3, none⟩) (Kd.S_far (p := ⟨gb237, 2, none⟩) (Kd.S_far (p := ⟨gb237, 1, none⟩) (Kd.S_far (p := ⟨gb237, 0, none⟩) (Kd.S_mono HO_5.out (fun k_ hk => (⟨hk, hk.2⟩ : _ ∧ k_ ≠ gb237))) (fun _ hk => hk.2) (.int .i64 ((rd_T49 x5_2 x60_3).f0))) (fun _ hk => hk.2) (.int .i64 ((rd_T49 x5_2 x60_3).f1))) (fun _ hk => hk.2) (.int .i64 ((rd_T49 x5_2 x60_3).f2))) (fun _ hk => hk.2) (.slice A236_3 ((rd_T49 x5_2 x60_3).f3).length c236_3)) (fun _ hk => hk.1.2)⟩, ⟨by (with_reducible repeat (first | apply Kd.S_alloc | apply Kd.S_drewN | apply Kd.S_drew)); exact Kd.S_mono (Kd.S_far (p := ⟨gb237, 3, none⟩) (Kd.S_far (p := ⟨gb237, 2, none⟩) (Kd.S_far (p := ⟨gb237, 1, none⟩) (Kd.S_far (p := ⟨gb237, 0, none⟩) (Kd.S_types HO_6.out BK237.out (by decide)) (fun _ hk => hk.2) (.int .i64 ((rd_T49 x5_2 x60_3).f0))) (fun _ hk => hk.2) (.int .i64 ((rd_T49 x5_2 x60_3).f1))) (fun _ hk => hk.2) (.int .i64 ((rd_T49 x5_2 x60_3).f2))) (fun _ hk => hk.2) (.slice A236_3 ((rd_T49 x5_2 x60_3).f3).length c236_3)) (fun _ hk => trivial)⟩, ⟨by (with_reducible repeat (first | apply Kd.S_alloc | apply Kd.S_drewN | apply Kd.S_drew)); exact Kd.S_mono (Kd.S_far (p := ⟨gb237, 3, none⟩) (Kd.S_far (p := ⟨gb237, 2, none⟩) (Kd.S_far (p := ⟨gb237, 1, none⟩) (Kd.S_far (p := ⟨gb237, 0, none⟩) (Kd.S_mono HO_58.out (fun k_ hk => (⟨hk, hk.2⟩ : _ ∧ k_ ≠ gb237))) (fun _ hk => hk.2) (.int .i64 ((rd_T49 x5_2 x60_3).f0))) (fun _ hk => hk.2) (.int .i64 ((rd_T49 x5_2 x60_3).f1))) (fun _ hk => hk.2) (.int .i64 ((rd_T49 x5_2 x60_3).f2))) (fun _ hk => hk.2) (.slice A236_3 ((rd_T49 x5_2 x60_3).f3).length c236_3)) (fun _ hk => hk.1.2)⟩, ⟨by (with_reducible repeat (first | refine blk_drewN ?_ _ | refine blk_drew ?_ | refine blk_alloc ?_ _)); refine blk_put (cs := #[.int .i64 ((rd_T49 x5_2 x60_3).f0), .int .i64 ((rd_T49 x5_2 x60_3).f1), .int .i64 ((rd_T49 x5_2 x60_3).f2), .slice none 0 0]) ?_ 3 _ rfl; (with_reducible repeat (first | refine blk_drewN ?_ _ | refine blk_drew ?_ | refine blk_alloc ?_ _)); refine blk_put (cs := #[.int .i64 ((rd_T49 x5_2 x60_3).f0), .int .i64 ((rd_T49 x5_2 x60_3).f1), .int .i64 0, .slice none 0 0]) ?_ 2 _ rfl; (with_reducible repeat (first | refine blk_drewN ?_ _ | refine blk_drew ?_ | refine blk_alloc ?_ _)); refine blk_put (cs := #[.int .i64 ((rd_T49 x5_2 x60_3).f0), .int .i64 0, .int .i64 0, .slice none 0 0]) ?_ 1 _ rfl; (with_reducible repeat (first | refine blk_drewN ?_ _ | refine blk_drew ?_ | refine blk_alloc ?_ _)); refine blk_put (cs := #[.int .i64 0, .int .i64 0, .int .i64 0, .slice none 0 0]) ?_ 0 _ rfl; (with_reducible repeat (first | refine blk_drewN ?_ _ | refine blk_drew ?_ | refine blk_alloc ?_ _)); exact BK237.out⟩, ⟨by repeat (first | (with_reducible first | exact HB.out | apply below_alloc | apply pw_below_drewN | apply below_drew1 | refine below_set ?_ GE237.out) | exact HB.out)⟩⟩
                                case round =>
                                  clear H'
                                  try clear c1
                                  try clear c2
                                  try clear p2
                                  try clear q2
                                  try clear hx2
                                  try clear hf2
                                  try clear c3
                                  try clear hx3
                                  try clear hf3
                                  try clear c4
                                  try clear c5
                                  try clear p6
                                  try clear c8
                                  try clear c10
                                  try clear c10b0
                                  try clear c10b1
                                  try clear c15
                                  try clear c16
                                  try clear c16b0
                                  try clear c16b1
                                  try clear c17
                                  try clear c17b0
                                  try clear c17b1
                                  try clear c18
                                  try clear c18b0
                                  try clear c18b1
                                  try clear c19
                                  try clear c23
                                  try clear c23b0
                                  try clear p23
                                  try clear q23
                                  try clear hx23
                                  try clear c24
                                  try clear c24b0
                                  try clear c25
                                  try clear c25b0
                                  try clear c26
                                  try clear c26b0
                                  try clear c27
                                  try clear p27
                                  try clear q27
                                  try clear hx27
                                  try clear hf27
                                  try clear c35
                                  try clear hx35
                                  try clear hf35
                                  try clear c39
                                  try clear c39b0
                                  try clear c40
                                  try clear c40b0
                                  try clear c41
                                  try clear c41b0
                                  try clear hcz30_0
                                  try clear hcz30_1
                                  try clear hcz30_2
                                  try clear hcz30_3
                                  try clear hcz32_0
                                  try clear hcz32_1
                                  try clear hcz32_2
                                  try clear hcz32_3
                                  try clear hcz34_0
                                  try clear hcz34_1
                                  try clear hcz34_2
                                  try clear hcz34_3
                                  try clear hcz37_0
                                  try clear hcz37_1
                                  try clear hcz37_2
                                  try clear hcz37_3
                                  try clear hcz43_0
                                  try clear hcz43_1
                                  try clear hcz43_2
                                  try clear hcz43_3
                                  try clear hfz30_0
                                  try clear hfz30_1
                                  try clear hfz30_2
                                  try clear hfz30_3
                                  try clear hfz32_0
                                  try clear hfz32_1
                                  try clear hfz32_2
                                  try clear hfz32_3
                                  try clear hfz34_0
                                  try clear hfz34_1
                                  try clear hfz34_2
                                  try clear hfz34_3
                                  try clear hfz37_0
                                  try clear hfz37_1
                                  try clear hfz37_2
                                  try clear hfz37_3
                                  try clear hfz43_0
                                  try clear hfz43_1
                                  try clear hfz43_2
                                  try clear hfz43_3
                                  try clear hx233_0
                                  try clear hx233_1
                                  try clear hx233_2
                                  try clear hx233_3
                                  try clear hx236_0
                                  try clear hx236_1
                                  try clear hx236_2
                                  try clear hx236_3
                                  try clear hx27_0
                                  try clear hx27_1
                                  try clear hx27_2
                                  try clear hx27_3
                                  try clear hx35_0
                                  try clear hx35_1
                                  try clear hx35_2
                                  try clear hx35_3
                                  try clear p2
                                  try clear p23
                                  try clear p233
                                  try clear p236
                                  try clear p27
                                  try clear p6
                                  try clear q2
                                  try clear q23
                                  try clear q233
                                  try clear q236
                                  try clear q27
                                  obtain ⟨x6_4, x12_4, rfl, HA, HK4, HO_5, HO_6, HO_58, BK237, HB⟩ := hrel
                                  cases gk with
                                  | zero => exact absurd HA.out (by simp [ontimelaw44_ResponseExact.l2])
                                  | succ k4 =>
                                    have H := HA.out
                                    clear HA
                                    simp only [ontimelaw44_ResponseExact.l2] at H
                                    by_cases c44 : x12_4 < (wrap64 ((wrap64 (a1)) + x7_2))
                                    · rw [if_pos c44] at H
                                      have c44b0 : decide (x12_4 < (wrap64 ((wrap64 (a1)) + x7_2))) = true := decide_eq_true c44
                                      clear c44
                                      by_cases c45 : 0 ≤ x60_3
                                      · rw [if_pos c45] at H
                                        have c45b0 : decide (0 ≤ x60_3) = true := decide_eq_true c45
                                        clear c45
                                        by_cases c46 : x60_3 < (x6_4.length : Int)
                                        · rw [if_pos c46] at H
                                          have c46b0 : decide (x60_3 < (x6_4.length : Int)) = true := decide_eq_true c46
                                          clear c46
                                          by_cases c47 : (rd_L5 x6_4 x60_3).length < 17592186044416
                                          · rw [if_pos c47] at H
                                            have LMc47 := Aside0.mk c47
                                            clear c47
                                            obtain ⟨y239, hy239⟩ : ∃ y_ : List Int, y_ = ((rd_L5 x6_4 x60_3) ++ [x12_4]) := ⟨_, rfl⟩
                                            replace H : (ontimelaw44_ResponseExact.l2 k4 a1 x5_2 (x6_4.set (x60_3 : Int).toNat y239) x7_2 x60_3 (wrap64 (x12_4 + ((rd_T49 x5_2 x60_3).f1))) x5_2 (x5_2.length : Int) x60_3 ((rd_T49 x5_2 x60_3).f0) ((rd_T49 x5_2 x60_3).f1) ((rd_T49 x5_2 x60_3).f2) ((rd_T49 x5_2 x60_3).f3)) = some r := by first | (rw [hy239]; with_reducible exact H) | (have H2_ := (Option.bind_some _ _).symm.trans H; rw [hy239]; with_reducible exact H2_) | (have H2_ := (Option.bind_some _ _).symm.trans H; with_reducible exact H2_) | with_reducible exact H | (rw [hy239]; exact H) | exact H
                                            have Ny239 := Aside0.mk hy239
                                            clear hy239
                                            obtain ⟨y242, hy242⟩ : ∃ y_ : List (List Int), y_ = (x6_4.set (x60_3 : Int).toNat y239) := ⟨_, rfl⟩
                                            replace H : (ontimelaw44_ResponseExact.l2 k4 a1 x5_2 y242 x7_2 x60_3 (wrap64 (x12_4 + ((rd_T49 x5_2 x60_3).f1))) x5_2 (x5_2.length : Int) x60_3 ((rd_T49 x5_2 x60_3).f0) ((rd_T49 x5_2 x60_3).f1) ((rd_T49 x5_2 x60_3).f2) ((rd_T49 x5_2 x60_3).f3)) = some r := by first | (rw [hy242]; with_reducible exact H) | (have H2_ := (Option.bind_some _ _).symm.trans H; rw [hy242]; with_reducible exact H2_) | (have H2_ := (Option.bind_some _ _).symm.trans H; with_reducible exact H2_) | with_reducible exact H | (rw [hy242]; exact H) | exact H
                                            have Ny242 := Aside0.mk hy242
                                            clear hy242
                                            have H' := Aside0.mk H
                                            clear H
                                            obtain ⟨Ao49, co49, eo49⟩ := Kd.S_slice HO_6.out
                                            subst eo49
                                            have p238 : 0 ≤ (x60_3 : Int) := of_decide_eq_true (by first | (with_reducible assumption) | assumption)
                                            have q238 : x60_3 < (x6_4.length : Int) := of_decide_eq_true (by first | (with_reducible assumption) | assumption)
                                            obtain ⟨ad238, A238_0, c238_0, e238, hx238_0, hl238_0, hi238_0⟩ := at_L5 (Kd.S_reads' HO_6.out).2.2 x60_3 p238 q238
                                            cases e238
                                            obtain ⟨ce238, hce238, hMe238, hcc238⟩ := Kd.S_get HO_6.out [] x60_3 p238 (by first | exact q238 | exact of_decide_eq_true (by first | (with_reducible assumption) | assumption) | (have e_ := (Kd.S_reads' HO_6.out).1; omega))
                                            obtain ⟨ve238_0, rfl, ge238_0⟩ := hMe238
                                            have hv238_0 := hcc238 0 _ rfl
                                            rw [Nat.add_zero, show ((Kd.slice 3 (Kd.int .i64))).sz = 1 from rfl, Nat.mul_one] at hv238_0
                                            replace hv238_0 := Option.some.inj (hv238_0.symm.trans hx238_0)
                                            rw [hv238_0] at ge238_0
                                            have HL238_0 := Aside0.mk (show Kd.R (Kd.int .i64) 3 _ _ _ _ (rd_L5 x6_4 x60_3) from ge238_0)
                                            clear hv238_0 ge238_0
                                            have HX238_0 := Aside0.mk hx238_0
                                            clear hcc238 hce238
                                            have HR238_0 := Aside0.mk hi238_0
                                            have HC238_0 := Aside0.mk hl238_0
                                            clear hi238_0 hl238_0
                                            replace p238 := eq_true p238
                                            replace q238 := eq_true q238
                                            obtain ⟨go50, co50, eo50, gb50, gl50, cl50, HG50⟩ := Kd.S_form HO_6.out (by have h_ : (x60_3 : Int) < ((x6_4.length : Int) : Int) := of_decide_eq_true (by first | (with_reducible assumption) | assumption); have h2_ : 0 ≤ (x60_3 : Int) := (of_decide_eq_true (by first | (with_reducible assumption) | assumption)); omega)
                                            (first | cases eo50 | (injection eo50 with ea_ en_ ec_; (first | subst ea_ | (injection ea_ with ea_; subst ea_)); subst ec_; clear en_))
                                            have GB50 := Aside0.mk gb50
                                            have GG50 := Aside0.mk HG50
                                            clear gb50 gl50 HG50
                                            (first | simp only [add_plain] at hx238_0 | skip)
                                            obtain ⟨oki50, ce50, hcl50, hM50, hcc50, _, _, hH50⟩ := Kd.S_elem HO_6.out [] (x60_3 : Int) (of_decide_eq_true (by first | (with_reducible assumption) | assumption)) (by have h_ : (x60_3 : Int) < ((x6_4.length : Int) : Int) := of_decide_eq_true (by first | (with_reducible assumption) | assumption); first | exact h_ | (have e_ := (Kd.S_reads' HO_6.out).1; omega) | simpa using h_)
                                            obtain ⟨ve50_0, rfl, ge50_0⟩ := hM50
                                            have hv50 := hcc50 0 _ rfl
                                            have hX50 := HX238_0.out
                                            (try simp only [add_plain] at hX50)
                                            (try simp only [Nat.add_zero] at hv50)
                                            (try rw [show ((Kd.slice 3 (Kd.int .i64))).sz = 1 from rfl, Nat.mul_one] at hv50)
                                            replace hv50 := Option.some.inj (hv50.symm.trans hX50)
                                            subst hv50
                                            clear hX50 hcc50 hcl50
                                            have UU50 := Aside0.mk (show Kd.R (Kd.int .i64) 3 _ w.heap.size oki50 (.slice A238_0 (rd_L5 x6_4 x60_3).length c238_0) (rd_L5 x6_4 x60_3) from ge50_0)
                                            have HH50 := Aside0.mk hH50
                                            have HN50 := Aside0.mk (Kd.S_reads' HO_6.out).1
                                            clear hH50 ge50_0
                                            go_wp2_with (first | ((with_reducible refine gate_builtin (b := .append) (xs := #[.tmp 82, .tmp 84]) rfl ?_); (try (refine gate_guard (by rfl) ?_; dsimp only)); at_builtin; refine Kd.R_append (Kd.int .i64) (w0 := w) w.heap.size rfl (.tmp 82) (.tmp 84) 38 3 (.int .i64 0) 8 rfl Try.underlying38 info3 rfl (by decide) (by omega) (.slice A238_0 (rd_L5 x6_4 x60_3).length c238_0) (rd_L5 x6_4 x60_3) x12_4 [.int .i64 x12_4] (fun k_ => oki50 k_ ∨ ((fun _ => True)) k_ ∧ wr.heap.size ≤ k_) (fun _ => False) rfl rfl ?aP (fun _ hk => hk.elim) ?aF ?aO ?aB ?aS ?aL ?_; (case aP => exact rfl); (case aB => exact (by repeat (first | (with_reducible first | exact HB.out | apply below_alloc | apply pw_below_drewN | apply below_drew1 | refine below_set ?_ GE237.out) | exact HB.out))); (case aF => exact (fun k_ hk => .inr ⟨trivial, hk⟩)); (case aO => exact (by (with_reducible repeat (first | apply Kd.R_alloc | apply Kd.R_drewN | apply Kd.R_drew)); exact Kd.R_mono UU50.out (fun _ hk => .inl hk))); (case aS => exact (below_size (by repeat (first | (with_reducible first | exact HB.out | apply below_alloc | apply pw_below_drewN | apply below_drew1 | refine below_set ?_ GE237.out) | exact HB.out)))); (case aL => have := LMc47.out; omega); intro v240 w51 ho hb hg hat; rw [← Ny239.out] at ho; have n0_ := Aside0.mk (Kd.S_over' (v := (.slice A238_0 (rd_L5 x6_4 x60_3).length c238_0)) (by (with_reducible repeat (first | apply Kd.S_alloc | apply Kd.S_drewN | apply Kd.S_drew)); exact HO_5.out) (Kd.R_typed HL238_0.out) (by decide) hg); have n1_ := Aside0.mk (Kd.S_over' (v := (.slice A238_0 (rd_L5 x6_4 x60_3).length c238_0)) (by (with_reducible repeat (first | apply Kd.S_alloc | apply Kd.S_drewN | apply Kd.S_drew)); exact HO_58.out) (Kd.R_typed HL238_0.out) (by decide) hg); have n2_ := Aside0.mk (blk_grown (g := gb237) (o := .cells #[.int .i64 ((rd_T49 x5_2 x60_3).f0), .int .i64 ((rd_T49 x5_2 x60_3).f1), .int .i64 ((rd_T49 x5_2 x60_3).f2), .slice A236_3 ((rd_T49 x5_2 x60_3).f3).length c236_3] 49 (0, 0)) (by (with_reducible repeat (first | refine blk_drewN ?_ _ | refine blk_drew ?_ | refine blk_alloc ?_ _)); exact BK237.out) hg (Kd.R_ne HL238_0.out BK237.out (by decide))); have n3_ := Aside0.mk (hb); have n4_ := Aside0.mk (Kd.H_grown (Kd.H_widen (by repeat (first | exact HH50.out | refine Kd.H_alloc ?_ _ | refine Kd.H_drewN ?_ _ | refine Kd.H_drew ?_))) hg (fun k_ e_ => .inl (UU50.out.1 k_ e_))); have n5_ := Aside0.mk (ho); clear HO_5; clear HO_58; clear BK237; clear HB; clear HH50; clear HO_6; clear UU50; clear HL238_0; have HO_5 := n0_; have HO_58 := n1_; have BK237 := n2_; have HB := n3_; have HH50 := n4_; have HO241 := n5_; clear n0_ n1_ n2_ n3_ n4_ n5_; clear ho hb hg hat; have p48 : 0 ≤ (x60_3 : Int) := of_decide_eq_true (by first | (with_reducible assumption) | assumption); have q48 : (x60_3 : Int) < ((x6_4.length : Int) : Int) := of_decide_eq_true (by first | (with_reducible assumption) | assumption); replace p48 := eq_true p48; replace q48 := eq_true q48; obtain ⟨Ao54, co54, eo54⟩ := Kd.R_slice HO241.out; subst eo54; obtain ⟨_, _, hraw52, _, _, hcc52, _⟩ := Kd.H_raw HH50.out (of_decide_eq_true (by first | (with_reducible assumption) | assumption)) (by have h_ : (x60_3 : Int) < ((x6_4.length : Int) : Int) := of_decide_eq_true (by first | (with_reducible assumption) | assumption); first | exact h_ | (have e_ := (HN50.out); omega) | simpa using h_); obtain ⟨_, hfr52⟩ := Kd.H_at HH50.out (of_decide_eq_true (by first | (with_reducible assumption) | assumption)) (by have h_ : (x60_3 : Int) < ((x6_4.length : Int) : Int) := of_decide_eq_true (by first | (with_reducible assumption) | assumption); first | exact h_ | (have e_ := (HN50.out); omega) | simpa using h_); have hx52_0 := hcc52 0 _ rfl; have hf52_0 := hfr52 0; (try simp only [Nat.add_zero] at hx52_0 hf52_0); (try rw [show ((Kd.slice 3 (Kd.int .i64))).sz = 1 from rfl, Nat.mul_one] at hx52_0); (try rw [show ((Kd.slice 3 (Kd.int .i64))).sz = 1 from rfl, Nat.mul_one] at hf52_0); have HP52 := Kd.S_seg0 HH50.out (of_decide_eq_true (by first | (with_reducible assumption) | assumption)) (by have h_ : (x60_3 : Int) < ((x6_4.length : Int) : Int) := of_decide_eq_true (by first | (with_reducible assumption) | assumption); first | exact h_ | (have e_ := (HN50.out); omega) | simpa using h_) (seg := [.slice Ao54 y239.length co54]) (j := 0) (show 1 ≤ 1 from by decide) (x' := y239) (Kd.M_row HO241.out) (fun _ hk => hk); (try simp only [show ((Kd.slice 3 (Kd.int .i64))).sz = 1 from rfl, Nat.mul_one, Nat.add_zero] at HP52); clear hcc52 hfr52) | ((with_reducible refine gate_store (t := 38) (p := 86) rfl ?_); refine store_event (t := 38) (p := 86) (v := ?vo_w53) (w1 := (w51.setCell ⟨go50, (x60_3 : Int).toNat, none⟩ (.slice Ao54 y239.length co54))) ?hg ?ho ?hn ?hr ?_; (case ho => rfl); (case hg => rfl); (case hn => rfl); (case hr => first | (go_simp; done) | (go_simp; rfl)); intro w53 hw; have hg : w51.grownBy w53 (some go50) := (by rw [hw]; exact HP52.2); have hp_ : Kd.S (Kd.slice 3 (Kd.int .i64)) 38 w53 w.heap.size (fun _ => True) (.slice (some ⟨go50, 0, none⟩) x6_4.length co49) y242 := (by rw [hw, Ny242.out]; exact HP52.1); clear HP52; have n0_ := Aside0.mk (Kd.S_over' (v := (.slice (some ⟨go50, 0, none⟩) x6_4.length co49)) (by (with_reducible repeat (first | apply Kd.S_alloc | apply Kd.S_drewN | apply Kd.S_drew)); exact HO_5.out) (Kd.R_typed hraw52) (by decide) hg); have n1_ := Aside0.mk (Kd.S_over' (v := (.slice (some ⟨go50, 0, none⟩) x6_4.length co49)) (by (with_reducible repeat (first | apply Kd.S_alloc | apply Kd.S_drewN | apply Kd.S_drew)); exact HO_58.out) (Kd.R_typed hraw52) (by decide) hg); have n2_ := Aside0.mk (blk_grown (g := gb237) (o := .cells #[.int .i64 ((rd_T49 x5_2 x60_3).f0), .int .i64 ((rd_T49 x5_2 x60_3).f1), .int .i64 ((rd_T49 x5_2 x60_3).f2), .slice A236_3 ((rd_T49 x5_2 x60_3).f3).length c236_3] 49 (0, 0)) (by (with_reducible repeat (first | refine blk_drewN ?_ _ | refine blk_drew ?_ | refine blk_alloc ?_ _)); exact BK237.out) hg (Kd.R_ne hraw52 BK237.out (by decide))); have n3_ := Aside0.mk ((by rw [hw]; exact below_set HB.out GB50.out : Below w.heap.size w w53)); have n4_ := Aside0.mk (hp_); clear HO_5; clear HO_58; clear BK237; clear HB; clear HO241; clear HH50; have HO_5 := n0_; have HO_58 := n1_; have BK237 := n2_; have HB := n3_; have HO_6 := n4_; clear n0_ n1_ n2_ n3_ n4_; clear hg hw hp_ hraw52; have hcz55_0 : w53.cell? ⟨gb237, 0, none⟩ = some (.int .i64 ((rd_T49 x5_2 x60_3).f0)) := (blk_cell BK237.out 0).trans rfl; have hcz55_1 : w53.cell? ⟨gb237, 1, none⟩ = some (.int .i64 ((rd_T49 x5_2 x60_3).f1)) := (blk_cell BK237.out 1).trans rfl; have hcz55_2 : w53.cell? ⟨gb237, 2, none⟩ = some (.int .i64 ((rd_T49 x5_2 x60_3).f2)) := (blk_cell BK237.out 2).trans rfl; have hcz55_3 : w53.cell? ⟨gb237, 3, none⟩ = some (.slice A236_3 ((rd_T49 x5_2 x60_3).f3).length c236_3) := (blk_cell BK237.out 3).trans rfl; have hfz55_0 := blk_frozen BK237.out 0; have hfz55_1 := blk_frozen BK237.out 1; have hfz55_2 := blk_frozen BK237.out 2; have hfz55_3 := blk_frozen BK237.out 3))
                                            go_roundg k4
                                            case measure => have := HJ4.out; have := HK2.out; have := HK3.out; have := HK4.out; omega
                                            case rel => exact ⟨(y242), (wrap64 (x12_4 + ((rd_T49 x5_2 x60_3).f1))), (by first | rfl | (simp; done) | (simp [*]; done)), H', ⟨by have := HJ4.out; have := HK2.out; have := HK3.out; have := HK4.out; omega⟩, ⟨by (with_reducible repeat (first | apply Kd.S_alloc | apply Kd.S_drewN | apply Kd.S_drew)); exact HO_5.out⟩, ⟨by (with_reducible repeat (first | apply Kd.S_alloc | apply Kd.S_drewN | apply Kd.S_drew)); exact HO_6.out⟩, ⟨by (with_reducible repeat (first | apply Kd.S_alloc | apply Kd.S_drewN | apply Kd.S_drew)); exact HO_58.out⟩, ⟨by (with_reducible repeat (first | refine blk_drewN ?_ _ | refine blk_drew ?_ | refine blk_alloc ?_ _)); exact BK237.out⟩, ⟨by repeat (first | (with_reducible first | exact HB.out | apply below_alloc | apply pw_below_drewN | apply below_drew1 | refine below_set ?_ GE237.out) | exact HB.out)⟩⟩
                                          · rw [if_neg c47] at H
                                            exact absurd H (by simp)
                                        · rw [if_neg c46] at H
                                          exact absurd H (by simp)
                                      · rw [if_neg c45] at H
                                        exact absurd H (by simp)
                                    · rw [if_neg c44] at H
                                      have c44b0 : decide (x12_4 < (wrap64 ((wrap64 (a1)) + x7_2))) = false := decide_eq_false c44
                                      clear c44
                                      have H' := Aside0.mk H
                                      clear H
                                      go_wp2
                                      go_roundg k4
                                      case measure => have := HJ4.out; have := HK2.out; have := HK3.out; have := HK4.out; omega
                                      case rel => exact ⟨(x6_4), (wrap64 (x60_3 + 1)), (by first | rfl | (simp; done) | (simp [*]; done)), H', ⟨by have := HJ4.out; have := HK2.out; have := HK3.out; have := HK4.out; omega⟩, ⟨by (with_reducible repeat (first | apply Kd.S_alloc | apply Kd.S_drewN | apply Kd.S_drew)); exact Kd.S_mono HO_5.out (fun _ hk => trivial)⟩, ⟨by (with_reducible repeat (first | apply Kd.S_alloc | apply Kd.S_drewN | apply Kd.S_drew)); exact HO_6.out⟩, ⟨by (with_reducible repeat (first | apply Kd.S_alloc | apply Kd.S_drewN | apply Kd.S_drew)); exact Kd.S_mono HO_58.out (fun _ hk => trivial)⟩, ⟨by repeat (first | (with_reducible first | exact HB.out | apply below_alloc | apply pw_below_drewN | apply below_drew1 | refine below_set ?_ GE237.out) | exact HB.out)⟩⟩
                              · rw [if_neg c41] at H
                                exact absurd H (by simp)
                            · rw [if_neg c40] at H
                              exact absurd H (by simp)
                          · rw [if_neg c39] at H
                            have c39b0 : decide (x60_3 < (x5_2.length : Int)) = false := decide_eq_false c39
                            clear c39
                            replace H := Option.bind_eq_some_iff.mp H
                            obtain ⟨⟨t243, t244⟩, A560, H⟩ := H
                            replace H : (if t244 = 0 then (ontimelaw44_ResponseExact.l3 k3 a1 x5_2 t243 (x5_2.length : Int) 0) else (some false)) = some r := H
                            have A56 := Aside0.mk A560
                            clear A560
                            by_cases c57 : t244 = 0
                            · rw [if_pos c57] at H
                              have c57b0 : (t244 == 0) = true := beq_iff_eq.mpr c57
                              have c57b1 : (t244 != 0) = false := bne_eq_false_iff_eq.mpr c57
                              clear c57
                              have H' := Aside0.mk H
                              clear H
                              obtain ⟨Ao58, co58, eo58⟩ := Kd.S_slice HO_6.out
                              subst eo58
                              go_wp2_with (first | ((with_reducible refine gate_callee (f := 21) rfl ?_); refine goesL_ (some 95) rfl rfl Try.func21 (by kernel_rfl) rfl #[.slice Ao38 x5_2.length co38, .slice Ao58 x6_3.length co58, .int .i64 (wrap64 ((wrap64 (a1)) + x7_2))] rfl (by (try simp only [List.map_toArray, List.map_cons, List.map_nil]); first | done | rfl | (simp only [List.length_drop, List.length_take]; rfl)) ?_; (with_reducible refine (ceiling_Simulate.calls k3 _ _ x5_2 _ _ x6_3 (wrap64 ((wrap64 (a1)) + x7_2)) t243 t244 _ ?side1 ?side2 ?side3 ?side4 A56.out).mono ?_); (case side1 => repeat (first | exact (Kd.S_reads' HO_5.out).2.2 | (with_reducible refine Kd.C_alloc ?_ _) | (with_reducible refine Kd.C_drewN ?_ _) | (with_reducible refine Kd.C_drew ?_))); (case side2 => exact (Kd.S_reads' HO_5.out).2.1); (case side3 => repeat (first | exact (Kd.S_reads' HO_6.out).2.2 | (with_reducible refine Kd.C_alloc ?_ _) | (with_reducible refine Kd.C_drewN ?_ _) | (with_reducible refine Kd.C_drew ?_))); (case side4 => exact (Kd.S_reads' HO_6.out).2.1); rintro e w59 ⟨v245, rfl, ho0, hb⟩; refine ⟨_, rfl, ?_⟩; have n0_ := Aside0.mk (Kd.S_below (by (with_reducible repeat (first | apply Kd.S_alloc | apply Kd.S_drewN | apply Kd.S_drew)); exact HO_5.out) hb); have n1_ := Aside0.mk (Kd.S_below (by (with_reducible repeat (first | apply Kd.S_alloc | apply Kd.S_drewN | apply Kd.S_drew)); exact HO_6.out) hb); have n2_ := Aside0.mk (Kd.S_below (by (with_reducible repeat (first | apply Kd.S_alloc | apply Kd.S_drewN | apply Kd.S_drew)); exact HO_58.out) hb); have n3_ := Aside0.mk (Kd.R_lower ho0 (below_size (by repeat (first | (with_reducible first | exact HB.out | apply below_alloc | apply pw_below_drewN | apply below_drew1) | exact HB.out)))); have n4_ := Aside0.mk (below_step (by repeat (first | (with_reducible first | exact HB.out | apply below_alloc | apply pw_below_drewN | apply below_drew1) | exact HB.out)) hb); clear HO_5; clear HO_6; clear HO_58; clear HB; have HO_5 := n0_; have HO_6 := n1_; have HO_58 := n2_; have HO246 := n3_; have HB := n4_; clear n0_ n1_ n2_ n3_ n4_; (try clear hb); (try clear hb2); (try clear hk); (try clear hi); (try clear ho0)))
                              go_loopg [102] k3 (fun kq v102 w' => ∃ (x102_4 : Int), v102 = .int .i64 x102_4 ∧ Aside0 (ontimelaw44_ResponseExact.l3 kq a1 x5_2 t243 (x5_2.length : Int) x102_4 = some r) ∧ Aside0 (kq ≤ k3) ∧ Aside0 (Kd.S k49 49 w' w.heap.size (fun _ => True) (.slice Ao38 x5_2.length co38) x5_2) ∧ Aside0 (Kd.R k34 34 w' w.heap.size (fun _ => True) v245 t243) ∧ Aside0 (Below w.heap.size w w'))
                              case atStart => exact ⟨(0), (by first | rfl | (simp; done) | (simp [*]; done)), H', ⟨Nat.le_refl _⟩, ⟨by (with_reducible repeat (first | apply Kd.S_alloc | apply Kd.S_drewN | apply Kd.S_drew)); exact HO_5.out⟩, ⟨by (with_reducible repeat (first | apply Kd.R_alloc | apply Kd.R_drewN | apply Kd.R_drew)); exact HO246.out⟩, ⟨by repeat (first | (with_reducible first | exact HB.out | apply below_alloc | apply pw_below_drewN | apply below_drew1) | exact HB.out)⟩⟩
                              case round =>
                                clear H'
                                try clear c1
                                try clear c2
                                try clear p2
                                try clear q2
                                try clear hx2
                                try clear hf2
                                try clear c3
                                try clear hx3
                                try clear hf3
                                try clear c4
                                try clear p4
                                try clear q4
                                try clear c5
                                try clear hx5
                                try clear hf5
                                try clear p6
                                try clear c8
                                try clear c10
                                try clear c10b0
                                try clear c10b1
                                try clear c15
                                try clear c16
                                try clear c16b0
                                try clear c16b1
                                try clear c17
                                try clear c17b0
                                try clear c17b1
                                try clear c18
                                try clear c18b0
                                try clear c18b1
                                try clear c19
                                try clear c21
                                try clear c23
                                try clear c23b0
                                try clear p23
                                try clear q23
                                try clear hx23
                                try clear c24
                                try clear c24b0
                                try clear c25
                                try clear c25b0
                                try clear c26
                                try clear c26b0
                                try clear c27
                                try clear p27
                                try clear q27
                                try clear hx27
                                try clear hf27
                                try clear c35
                                try clear hx35
                                try clear hf35
                                try clear c39
                                try clear c39b0
                                try clear c40
                                try clear c40b0
                                try clear c41
                                try clear c41b0
                                try clear c44
                                try clear c44b0
                                try clear c45
                                try clear c45b0
                                try clear c46
                                try clear c46b0
                                try clear c47
                                try clear p48
                                try clear q48
                                try clear c50
                                try clear c52
                                try clear hx52
                                try clear hf52
                                try clear c57
                                try clear c57b0
                                try clear c57b1
                                try clear hcz30_0
                                try clear hcz30_1
                                try clear hcz30_2
                                try clear hcz30_3
                                try clear hcz32_0
                                try clear hcz32_1
                                try clear hcz32_2
                                try clear hcz32_3
                                try clear hcz34_0
                                try clear hcz34_1
                                try clear hcz34_2
                                try clear hcz34_3
                                try clear hcz37_0
                                try clear hcz37_1
                                try clear hcz37_2
                                try clear hcz37_3
                                try clear hcz43_0
                                try clear hcz43_1
                                try clear hcz43_2
                                try clear hcz43_3
                                try clear hcz55_0
                                try clear hcz55_1
                                try clear hcz55_2
                                try clear hcz55_3
                                try clear hfz30_0
                                try clear hfz30_1
                                try clear hfz30_2
                                try clear hfz30_3
                                try clear hfz32_0
                                try clear hfz32_1
                                try clear hfz32_2
                                try clear hfz32_3
                                try clear hfz34_0
                                try clear hfz34_1
                                try clear hfz34_2
                                try clear hfz34_3
                                try clear hfz37_0
                                try clear hfz37_1
                                try clear hfz37_2
                                try clear hfz37_3
                                try clear hfz43_0
                                try clear hfz43_1
                                try clear hfz43_2
                                try clear hfz43_3
                                try clear hfz55_0
                                try clear hfz55_1
                                try clear hfz55_2
                                try clear hfz55_3
                                try clear hx233_0
                                try clear hx233_1
                                try clear hx233_2
                                try clear hx233_3
                                try clear hx236_0
                                try clear hx236_1
                                try clear hx236_2
                                try clear hx236_3
                                try clear hx238_0
                                try clear hx27_0
                                try clear hx27_1
                                try clear hx27_2
                                try clear hx27_3
                                try clear hx35_0
                                try clear hx35_1
                                try clear hx35_2
                                try clear hx35_3
                                try clear hx52_0
                                try clear p2
                                try clear p23
                                try clear p233
                                try clear p236
                                try clear p238
                                try clear p27
                                try clear p48
                                try clear p6
                                try clear q2
                                try clear q23
                                try clear q233
                                try clear q236
                                try clear q238
                                try clear q27
                                try clear q48
                                obtain ⟨x102_4, rfl, HA, HK4, HO_5, HO_13, HB⟩ := hrel
                                cases gk with
                                | zero => exact absurd HA.out (by simp [ontimelaw44_ResponseExact.l3])
                                | succ k4 =>
                                  have H := HA.out
                                  clear HA
                                  simp only [ontimelaw44_ResponseExact.l3] at H
                                  by_cases c60 : x102_4 < (x5_2.length : Int)
                                  · rw [if_pos c60] at H
                                    have c60b0 : decide (x102_4 < (x5_2.length : Int)) = true := decide_eq_true c60
                                    clear c60
                                    replace H := Option.bind_eq_some_iff.mp H
                                    obtain ⟨⟨t247, t248⟩, A610, H⟩ := H
                                    replace H : (if t248 = 0 then (ontimelaw44_ResponseExact.l4 k4 a1 x5_2 t243 x102_4 t247 false (x5_2.length : Int) x102_4 t243 (t243.length : Int) 0) else (ontimelaw44_ResponseExact.l3 k4 a1 x5_2 t243 (x5_2.length : Int) (wrap64 (x102_4 + 1)))) = some r := H
                                    have A61 := Aside0.mk A610
                                    clear A610
                                    by_cases c62 : t248 = 0
                                    · rw [if_pos c62] at H
                                      have c62b0 : (t248 == 0) = true := beq_iff_eq.mpr c62
                                      have c62b1 : (t248 != 0) = false := bne_eq_false_iff_eq.mpr c62
                                      clear c62
                                      have H' := Aside0.mk H
                                      clear H
                                      go_wp2_with (first | ((with_reducible refine gate_callee (f := 23) rfl ?_); refine goesL_ (some 108) rfl rfl Try.func23 (by kernel_rfl) rfl #[.slice Ao38 x5_2.length co38, .int .i64 x102_4] rfl (by (try simp only [List.map_toArray, List.map_cons, List.map_nil]); first | done | rfl | (simp only [List.length_drop, List.length_take]; rfl)) ?_; (with_reducible refine (response_Response.calls k4 _ _ x5_2 x102_4 t247 t248 _ ?side1 ?side2 A61.out).mono ?_); (case side1 => repeat (first | exact (Kd.S_reads' HO_5.out).2.2 | (with_reducible refine Kd.C_alloc ?_ _) | (with_reducible refine Kd.C_drewN ?_ _) | (with_reducible refine Kd.C_drew ?_))); (case side2 => exact (Kd.S_reads' HO_5.out).2.1); rintro e w63 ⟨rfl, hb⟩; refine ⟨_, rfl, ?_⟩; have n0_ := Aside0.mk (Kd.S_below (by (with_reducible repeat (first | apply Kd.S_alloc | apply Kd.S_drewN | apply Kd.S_drew)); exact HO_5.out) hb); have n1_ := Aside0.mk (Kd.R_below (by (with_reducible repeat (first | apply Kd.R_alloc | apply Kd.R_drewN | apply Kd.R_drew)); exact HO_13.out) hb); have n2_ := Aside0.mk (below_step (by repeat (first | (with_reducible first | exact HB.out | apply below_alloc | apply pw_below_drewN | apply below_drew1) | exact HB.out)) hb); clear HO_5; clear HO_13; clear HB; have HO_5 := n0_; have HO_13 := n1_; have HB := n2_; clear n0_ n1_ n2_; (try clear hb); (try clear hb2); (try clear hk); (try clear hi); obtain ⟨Ao64, co64, eo64⟩ := Kd.R_slice HO_13.out; subst eo64))
                                      go_loopg [18, 115] k4 (fun kq v18 v115 w' => ∃ (x18_5 : Bool) (x115_5 : Int), v18 = .bool x18_5 ∧ v115 = .int .i64 x115_5 ∧ Aside0 (ontimelaw44_ResponseExact.l4 kq a1 x5_2 t243 x102_4 t247 x18_5 (x5_2.length : Int) x102_4 t243 (t243.length : Int) x115_5 = some r) ∧ Aside0 (kq ≤ k4) ∧ Aside0 (Kd.S k49 49 w' w.heap.size (fun _ => True) (.slice Ao38 x5_2.length co38) x5_2) ∧ Aside0 (Kd.R k34 34 w' w.heap.size (fun _ => True) (.slice Ao64 t243.length co64) t243) ∧ Aside0 (Kd.R k34 34 w' w.heap.size (fun _ => True) (.slice Ao64 t243.length co64) t243) ∧ Aside0 (Below w.heap.size w w'))
                                      case atStart => exact ⟨(false), (0), (by first | rfl | (simp; done) | (simp [*]; done)), (by first | rfl | (simp; done) | (simp [*]; done)), H', ⟨Nat.le_refl _⟩, ⟨by (with_reducible repeat (first | apply Kd.S_alloc | apply Kd.S_drewN | apply Kd.S_drew)); exact HO_5.out⟩, ⟨by (with_reducible repeat (first | apply Kd.R_alloc | apply Kd.R_drewN | apply Kd.R_drew)); exact HO_13.out⟩, ⟨by (with_reducible repeat (first | apply Kd.R_alloc | apply Kd.R_drewN | apply Kd.R_drew)); exact HO_13.out⟩, ⟨by repeat (first | (with_reducible first | exact HB.out | apply below_alloc | apply pw_below_drewN | apply below_drew1) | exact HB.out)⟩⟩
                                      case round =>
                                        clear H'
                                        try clear c1
                                        try clear c2
                                        try clear p2
                                        try clear q2
                                        try clear hx2
                                        try clear hf2
                                        try clear c3
                                        try clear hx3
                                        try clear hf3
                                        try clear c4
                                        try clear p4
                                        try clear q4
                                        try clear c5
                                        try clear hx5
                                        try clear hf5
                                        try clear c6
                                        try clear p6
                                        try clear c8
                                        try clear c10
                                        try clear c10b0
                                        try clear c10b1
                                        try clear c15
                                        try clear c16
                                        try clear c16b0
                                        try clear c16b1
                                        try clear c17
                                        try clear c17b0
                                        try clear c17b1
                                        try clear c18
                                        try clear c18b0
                                        try clear c18b1
                                        try clear c19
                                        try clear c21
                                        try clear c23
                                        try clear c23b0
                                        try clear p23
                                        try clear q23
                                        try clear hx23
                                        try clear c24
                                        try clear c24b0
                                        try clear c25
                                        try clear c25b0
                                        try clear c26
                                        try clear c26b0
                                        try clear c27
                                        try clear p27
                                        try clear q27
                                        try clear hx27
                                        try clear hf27
                                        try clear c35
                                        try clear hx35
                                        try clear hf35
                                        try clear c39
                                        try clear c39b0
                                        try clear c40
                                        try clear c40b0
                                        try clear c41
                                        try clear c41b0
                                        try clear c44
                                        try clear c44b0
                                        try clear c45
                                        try clear c45b0
                                        try clear c46
                                        try clear c46b0
                                        try clear c47
                                        try clear p48
                                        try clear q48
                                        try clear c50
                                        try clear c52
                                        try clear hx52
                                        try clear hf52
                                        try clear c57
                                        try clear c57b0
                                        try clear c57b1
                                        try clear c60
                                        try clear c60b0
                                        try clear c62
                                        try clear c62b0
                                        try clear c62b1
                                        try clear p64
                                        try clear hcz30_0
                                        try clear hcz30_1
                                        try clear hcz30_2
                                        try clear hcz30_3
                                        try clear hcz32_0
                                        try clear hcz32_1
                                        try clear hcz32_2
                                        try clear hcz32_3
                                        try clear hcz34_0
                                        try clear hcz34_1
                                        try clear hcz34_2
                                        try clear hcz34_3
                                        try clear hcz37_0
                                        try clear hcz37_1
                                        try clear hcz37_2
                                        try clear hcz37_3
                                        try clear hcz43_0
                                        try clear hcz43_1
                                        try clear hcz43_2
                                        try clear hcz43_3
                                        try clear hcz55_0
                                        try clear hcz55_1
                                        try clear hcz55_2
                                        try clear hcz55_3
                                        try clear hfz30_0
                                        try clear hfz30_1
                                        try clear hfz30_2
                                        try clear hfz30_3
                                        try clear hfz32_0
                                        try clear hfz32_1
                                        try clear hfz32_2
                                        try clear hfz32_3
                                        try clear hfz34_0
                                        try clear hfz34_1
                                        try clear hfz34_2
                                        try clear hfz34_3
                                        try clear hfz37_0
                                        try clear hfz37_1
                                        try clear hfz37_2
                                        try clear hfz37_3
                                        try clear hfz43_0
                                        try clear hfz43_1
                                        try clear hfz43_2
                                        try clear hfz43_3
                                        try clear hfz55_0
                                        try clear hfz55_1
                                        try clear hfz55_2
                                        try clear hfz55_3
                                        try clear hx233_0
                                        try clear hx233_1
                                        try clear hx233_2
                                        try clear hx233_3
                                        try clear hx236_0
                                        try clear hx236_1
                                        try clear hx236_2
                                        try clear hx236_3
                                        try clear hx238_0
                                        try clear hx27_0
                                        try clear hx27_1
                                        try clear hx27_2
                                        try clear hx27_3
                                        try clear hx35_0
                                        try clear hx35_1
                                        try clear hx35_2
                                        try clear hx35_3
                                        try clear hx52_0
                                        try clear p2
                                        try clear p23
                                        try clear p233
                                        try clear p236
                                        try clear p238
                                        try clear p27
                                        try clear p4
                                        try clear p48
                                        try clear p6
                                        try clear q2
                                        try clear q23
                                        try clear q233
                                        try clear q236
                                        try clear q238
                                        try clear q27
                                        try clear q4
                                        try clear q48
                                        obtain ⟨x18_5, x115_5, rfl, rfl, HA, HK5, HO_5, HO_13, HO_113, HB⟩ := hrel
                                        cases gk with
                                        | zero => exact absurd HA.out (by simp [ontimelaw44_ResponseExact.l4])
                                        | succ k5 =>
                                          have H := HA.out
                                          clear HA
                                          simp only [ontimelaw44_ResponseExact.l4] at H
                                          by_cases c65 : x115_5 < (t243.length : Int)
                                          · rw [if_pos c65] at H
                                            have c65b0 : decide (x115_5 < (t243.length : Int)) = true := decide_eq_true c65
                                            clear c65
                                            by_cases c66 : 0 ≤ x115_5
                                            · rw [if_pos c66] at H
                                              have c66b0 : decide (0 ≤ x115_5) = true := decide_eq_true c66
                                              clear c66
                                              by_cases c67 : x115_5 < (t243.length : Int)
                                              · rw [if_pos c67] at H
                                                have c67b0 : decide (x115_5 < (t243.length : Int)) = true := decide_eq_true c67
                                                clear c67
                                                have HC68 := Aside0.mk H
                                                clear H
                                                have p249 : 0 ≤ (x115_5 : Int) := of_decide_eq_true (by first | (with_reducible assumption) | assumption)
                                                have q249 : x115_5 < (t243.length : Int) := of_decide_eq_true (by first | (with_reducible assumption) | assumption)
                                                obtain ⟨ad249, e249, hx249_0, hx249_1, hx249_2, hx249_3, hx249_4⟩ := at_T34 (Kd.R_reads' HO_113.out).2.2 x115_5 p249 q249
                                                cases e249
                                                replace p249 := eq_true p249
                                                replace q249 := eq_true q249
                                                go_upto_region 35 with (first | ((with_reducible refine gate_dst (N := 20) rfl ?_); (try (refine gate_guard (by rfl) ?_; dsimp only)); refine box_event ?hg (N := 20) ?hd (cs := #[.int .i64 0, .int .i64 0, .int .i64 0, .int .i64 0, .int .i64 0]) (t := 34) ?hr ?_; (case hd => rfl); (case hg => rfl); (case hr => first | (go_simp; done) | (go_simp; rfl)); intro gb250 hg w69 hbox hb; have n0_ := Aside0.mk (Kd.S_below (by (with_reducible repeat (first | apply Kd.S_alloc | apply Kd.S_drewN | apply Kd.S_drew)); exact HO_5.out) hb); have n1_ := Aside0.mk (Kd.R_below (Kd.R_elderB (by (with_reducible repeat (first | apply Kd.R_alloc | apply Kd.R_drewN | apply Kd.R_drew)); exact HO_13.out) gb250 (Nat.le_of_eq hg.symm)) hb); have n2_ := Aside0.mk (Kd.R_below (Kd.R_elderB (by (with_reducible repeat (first | apply Kd.R_alloc | apply Kd.R_drewN | apply Kd.R_drew)); exact HO_113.out) gb250 (Nat.le_of_eq hg.symm)) hb); have n3_ := Aside0.mk (below_step (by repeat (first | (with_reducible first | exact HB.out | apply below_alloc | apply pw_below_drewN | apply below_drew1) | exact HB.out)) hb); have n4_ := Aside0.mk (hbox); have n5_ := Aside0.mk ((by rw [hg]; exact (below_size (by repeat (first | (with_reducible first | exact HB.out | apply below_alloc | apply pw_below_drewN | apply below_drew1) | exact HB.out))) : w.heap.size ≤ gb250)); have n6_ := Aside0.mk ((by rw [hg]; exact (below_size (by repeat (first | (with_reducible first | exact HB.out | apply below_alloc | apply pw_below_drewN | apply below_drew1) | exact HB.out))) : w.heap.size ≤ gb250)); clear HO_5; clear HO_13; clear HO_113; clear HB; have HO_5 := n0_; have HO_13 := n1_; have HO_113 := n2_; have HB := n3_; have BK250 := n4_; have GW250 := n5_; have GE250 := n6_; clear n0_ n1_ n2_ n3_ n4_ n5_ n6_; clear hb hbox hg; have hcz70_0 : w69.cell? ⟨gb250, 0, none⟩ = some (.int .i64 0) := (blk_cell BK250.out 0).trans rfl; have hcz70_1 : w69.cell? ⟨gb250, 1, none⟩ = some (.int .i64 0) := (blk_cell BK250.out 1).trans rfl; have hcz70_2 : w69.cell? ⟨gb250, 2, none⟩ = some (.int .i64 0) := (blk_cell BK250.out 2).trans rfl; have hcz70_3 : w69.cell? ⟨gb250, 3, none⟩ = some (.int .i64 0) := (blk_cell BK250.out 3).trans rfl; have hcz70_4 : w69.cell? ⟨gb250, 4, none⟩ = some (.int .i64 0) := (blk_cell BK250.out 4).trans rfl; have hfz70_0 := blk_frozen BK250.out 0; have hfz70_1 := blk_frozen BK250.out 1; have hfz70_2 := blk_frozen BK250.out 2; have hfz70_3 := blk_frozen BK250.out 3; have hfz70_4 := blk_frozen BK250.out 4))
                                                (try simp only [Act.put, List.setIfInBounds_toArray, List.set_cons_zero, List.set_cons_succ])
                                                go_cut [129] (fun v129 wc => ∃ (kq : Nat) (x129_67 : Bool), v129 = .bool x129_67 ∧ Aside0 (ontimelaw44_ResponseExact.j6 kq a1 x5_2 t243 x102_4 t247 x18_5 (x5_2.length : Int) x102_4 t243 (t243.length : Int) x115_5 x129_67 ((rd_T34 t243 x115_5).f0) ((rd_T34 t243 x115_5).f1) ((rd_T34 t243 x115_5).f2) ((rd_T34 t243 x115_5).f3) ((rd_T34 t243 x115_5).f4) = some r) ∧ Aside0 (kq ≤ k5) ∧ Aside0 (Kd.S k49 49 wc w.heap.size (fun _ => True) (.slice Ao38 x5_2.length co38) x5_2) ∧ Aside0 (Kd.R k34 34 wc w.heap.size (fun k_ => k_ ≠ gb250) (.slice (some ad249) t243.length co64) t243) ∧ Aside0 (Kd.R k34 34 wc w.heap.size (fun k_ => k_ ≠ gb250) (.slice (some ad249) t243.length co64) t243) ∧ Aside0 (wc.heap[gb250]? = some (.cells #[.int .i64 ((rd_T34 t243 x115_5).f0), .int .i64 ((rd_T34 t243 x115_5).f1), .int .i64 ((rd_T34 t243 x115_5).f2), .int .i64 ((rd_T34 t243 x115_5).f3), .int .i64 ((rd_T34 t243 x115_5).f4)] 34 (0, 0))) ∧ Aside0 (Below w.heap.size w wc))
                                                case first =>
                                                  have H := HC68.out
                                                  clear HC68
                                                  by_cases c71 : ((rd_T34 t243 x115_5).f0) = x102_4
                                                  · rw [if_pos c71] at H
                                                    have c71b0 : (((rd_T34 t243 x115_5).f0) == x102_4) = true := beq_iff_eq.mpr c71
                                                    have c71b1 : (((rd_T34 t243 x115_5).f0) != x102_4) = false := bne_eq_false_iff_eq.mpr c71
                                                    clear c71
                                                    (first | rw [c71b0] | (simp only [i64_w, i32_w]; rw [c71b0]) | skip)
                                                    have H' := Aside0.mk H
                                                    clear H
                                                    have hcz72_0 : w69.cell? ⟨gb250, 0, none⟩ = some (.int .i64 0) := (blk_cell BK250.out 0).trans rfl
                                                    have hcz72_1 : w69.cell? ⟨gb250, 1, none⟩ = some (.int .i64 0) := (blk_cell BK250.out 1).trans rfl
                                                    have hcz72_2 : w69.cell? ⟨gb250, 2, none⟩ = some (.int .i64 0) := (blk_cell BK250.out 2).trans rfl
                                                    have hcz72_3 : w69.cell? ⟨gb250, 3, none⟩ = some (.int .i64 0) := (blk_cell BK250.out 3).trans rfl
                                                    have hcz72_4 : w69.cell? ⟨gb250, 4, none⟩ = some (.int .i64 0) := (blk_cell BK250.out 4).trans rfl
                                                    have hfz72_0 := blk_frozen BK250.out 0
                                                    have hfz72_1 := blk_frozen BK250.out 1
                                                    have hfz72_2 := blk_frozen BK250.out 2
                                                    have hfz72_3 := blk_frozen BK250.out 3
                                                    have hfz72_4 := blk_frozen BK250.out 4
                                                    go_wp2
                                                    go_meet
                                                    case rel => exact ⟨_, ((((rd_T34 t243 x115_5).f1) == (wrap64 (a1)))), (by first | rfl | (simp; done) | (simp [*]; done)), H', ⟨by have := HJ4.out; have := HK2.out; have := HK3.out; have := HK4.out; have := HK5.out; first | omega | exact Nat.le_refl _⟩, ⟨by (with_reducible repeat (first | apply Kd.S_alloc | apply Kd.S_drewN | apply Kd.S_drew)); exact Kd.S_mono (Kd.S_far (p := ⟨gb250, 4, none⟩) (Kd.S_far (p := ⟨gb250, 3, none⟩) (Kd.S_far (p := ⟨gb250, 2, none⟩) (Kd.S_far (p := ⟨gb250, 1, none⟩) (Kd.S_far (p := ⟨gb250, 0, none⟩) (Kd.S_types HO_5.out BK250.out (by decide)) (fun _ hk => hk.2) (.int .i64 ((rd_T34 t243 x115_5).f0))) (fun _ hk => hk.2) (.int .i64 ((rd_T34 t243 x115_5).f1))) (fun _ hk => hk.2) (.int .i64 ((rd_T34 t243 x115_5).f2))) (fun _ hk => hk.2) (.int .i64 ((rd_T34 t243 x115_5).f3))) (fun _ hk => hk.2) (.int .i64 ((rd_T34 t243 x115_5).f4))) (fun _ hk => trivial)⟩, ⟨by (with_reducible repeat (first | apply Kd.R_alloc | apply Kd.R_drewN | apply Kd.R_drew)); exact Kd.R_mono (Kd.R_far (p := ⟨gb250, 4, none⟩) (Kd.R_far (p := ⟨gb250, 3, none⟩) (Kd.R_far (p := ⟨gb250, 2, none⟩) (Kd.R_far (p := ⟨gb250, 1, none⟩) (Kd.R_far (p := ⟨gb250, 0, none⟩) (Kd.R_mono HO_13.out (fun k_ hk => (⟨hk, hk.2⟩ : _ ∧ k_ ≠ gb250))) (fun _ hk => hk.2) (.int .i64 ((rd_T34 t243 x115_5).f0))) (fun _ hk => hk.2) (.int .i64 ((rd_T34 t243 x115_5).f1))) (fun _ hk => hk.2) (.int .i64 ((rd_T34 t243 x115_5).f2))) (fun _ hk => hk.2) (.int .i64 ((rd_T34 t243 x115_5).f3))) (fun _ hk => hk.2) (.int .i64 ((rd_T34 t243 x115_5).f4))) (fun _ hk => hk.1.2)⟩, ⟨by (with_reducible repeat (first | apply Kd.R_alloc | apply Kd.R_drewN | apply Kd.R_drew)); exact Kd.R_mono (Kd.R_far (p := ⟨gb250, 4, none⟩) (Kd.R_far (p := ⟨gb250, 3, none⟩) (Kd.R_far (p := ⟨gb250, 2, none⟩) (Kd.R_far (p := ⟨gb250, 1, none⟩) (Kd.R_far (p := ⟨gb250, 0, none⟩) (Kd.R_mono HO_113.out (fun k_ hk => (⟨hk, hk.2⟩ : _ ∧ k_ ≠ gb250))) (fun _ hk => hk.2) (.int .i64 ((rd_T34 t243 x115_5).f0))) (fun _ hk => hk.2) (.int .i64 ((rd_T34 t243 x115_5).f1))) (fun _ hk => hk.2) (.int .i64 ((rd_T34 t243 x115_5).f2))) (fun _ hk => hk.2) (.int .i64 ((rd_T34 t243 x115_5).f3))) (fun _ hk => hk.2) (.int .i64 ((rd_T34 t243 x115_5).f4))) (fun _ hk => hk.1.2)⟩, ⟨by (with_reducible repeat (first | refine blk_drewN ?_ _ | refine blk_drew ?_ | refine blk_alloc ?_ _)); refine blk_put (cs := #[.int .i64 ((rd_T34 t243 x115_5).f0), .int .i64 ((rd_T34 t243 x115_5).f1), .int .i64 ((rd_T34 t243 x115_5).f2), .int .i64 ((rd_T34 t243 x115_5).f3), .int .i64 0]) ?_ 4 _ rfl; (with_reducible repeat (first | refine blk_drewN ?_ _ | refine blk_drew ?_ | refine blk_alloc ?_ _)); refine blk_put (cs := #[.int .i64 ((rd_T34 t243 x115_5).f0), .int .i64 ((rd_T34 t243 x115_5).f1), .int .i64 ((rd_T34 t243 x115_5).f2), .int .i64 0, .int .i64 0]) ?_ 3 _ rfl; (with_reducible repeat (first | refine blk_drewN ?_ _ | refine blk_drew ?_ | refine blk_alloc ?_ _)); refine blk_put (cs := #[.int .i64 ((rd_T34 t243 x115_5).f0), .int .i64 ((rd_T34 t243 x115_5).f1), .int .i64 0, .int .i64 0, .int .i64 0]) ?_ 2 _ rfl; (with_reducible repeat (first | refine blk_drewN ?_ _ | refine blk_drew ?_ | refine blk_alloc ?_ _)); refine blk_put (cs := #[.int .i64 ((rd_T34 t243 x115_5).f0), .int .i64 0, .int .i64 0, .int .i64 0, .int .i64 0]) ?_ 1 _ rfl; (with_reducible repeat (first | refine blk_drewN ?_ _ | refine blk_drew ?_ | refine blk_alloc ?_ _)); refine blk_put (cs := #[.int .i64 0, .int .i64 0, .int .i64 0, .int .i64 0, .int .i64 0]) ?_ 0 _ rfl; (with_reducible repeat (first | refine blk_drewN ?_ _ | refine blk_drew ?_ | refine blk_alloc ?_ _)); exact BK250.out⟩, ⟨by repeat (first | (with_reducible first | exact HB.out | apply below_alloc | apply pw_below_drewN | apply below_drew1 | refine below_set ?_ GE250.out) | exact HB.out)⟩⟩
                                                  · rw [if_neg c71] at H
                                                    have c71b0 : (((rd_T34 t243 x115_5).f0) == x102_4) = false := beq_eq_false_iff_ne.mpr c71
                                                    have c71b1 : (((rd_T34 t243 x115_5).f0) != x102_4) = true := bne_iff_ne.mpr c71
                                                    (first | rw [c71b0] | (simp only [i64_w, i32_w]; rw [c71b0]) | skip)
                                                    have H' := Aside0.mk H
                                                    clear H
                                                    have hcz73_0 : w69.cell? ⟨gb250, 0, none⟩ = some (.int .i64 0) := (blk_cell BK250.out 0).trans rfl
                                                    have hcz73_1 : w69.cell? ⟨gb250, 1, none⟩ = some (.int .i64 0) := (blk_cell BK250.out 1).trans rfl
                                                    have hcz73_2 : w69.cell? ⟨gb250, 2, none⟩ = some (.int .i64 0) := (blk_cell BK250.out 2).trans rfl
                                                    have hcz73_3 : w69.cell? ⟨gb250, 3, none⟩ = some (.int .i64 0) := (blk_cell BK250.out 3).trans rfl
                                                    have hcz73_4 : w69.cell? ⟨gb250, 4, none⟩ = some (.int .i64 0) := (blk_cell BK250.out 4).trans rfl
                                                    have hfz73_0 := blk_frozen BK250.out 0
                                                    have hfz73_1 := blk_frozen BK250.out 1
                                                    have hfz73_2 := blk_frozen BK250.out 2
                                                    have hfz73_3 := blk_frozen BK250.out 3
                                                    have hfz73_4 := blk_frozen BK250.out 4
                                                    go_wp2
                                                    go_meet
                                                    case rel => exact ⟨_, (false), (by first | rfl | (simp; done) | (simp [*]; done)), H', ⟨by have := HJ4.out; have := HK2.out; have := HK3.out; have := HK4.out; have := HK5.out; first | omega | exact Nat.le_refl _⟩, ⟨by (with_reducible repeat (first | apply Kd.S_alloc | apply Kd.S_drewN | apply Kd.S_drew)); exact Kd.S_mono (Kd.S_far (p := ⟨gb250, 4, none⟩) (Kd.S_far (p := ⟨gb250, 3, none⟩) (Kd.S_far (p := ⟨gb250, 2, none⟩) (Kd.S_far (p := ⟨gb250, 1, none⟩) (Kd.S_far (p := ⟨gb250, 0, none⟩) (Kd.S_types HO_5.out BK250.out (by decide)) (fun _ hk => hk.2) (.int .i64 ((rd_T34 t243 x115_5).f0))) (fun _ hk => hk.2) (.int .i64 ((rd_T34 t243 x115_5).f1))) (fun _ hk => hk.2) (.int .i64 ((rd_T34 t243 x115_5).f2))) (fun _ hk => hk.2) (.int .i64 ((rd_T34 t243 x115_5).f3))) (fun _ hk => hk.2) (.int .i64 ((rd_T34 t243 x115_5).f4))) (fun _ hk => trivial)⟩, ⟨by (with_reducible repeat (first | apply Kd.R_alloc | apply Kd.R_drewN | apply Kd.R_drew)); exact Kd.R_mono (Kd.R_far (p := ⟨gb250, 4, none⟩) (Kd.R_far (p := ⟨gb250, 3, none⟩) (Kd.R_far (p := ⟨gb250, 2, none⟩) (Kd.R_far (p := ⟨gb250, 1, none⟩) (Kd.R_far (p := ⟨gb250, 0, none⟩) (Kd.R_mono HO_13.out (fun k_ hk => (⟨hk, hk.2⟩ : _ ∧ k_ ≠ gb250))) (fun _ hk => hk.2) (.int .i64 ((rd_T34 t243 x115_5).f0))) (fun _ hk => hk.2) (.int .i64 ((rd_T34 t243 x115_5).f1))) (fun _ hk => hk.2) (.int .i64 ((rd_T34 t243 x115_5).f2))) (fun _ hk => hk.2) (.int .i64 ((rd_T34 t243 x115_5).f3))) (fun _ hk => hk.2) (.int .i64 ((rd_T34 t243 x115_5).f4))) (fun _ hk => hk.1.2)⟩, ⟨by (with_reducible repeat (first | apply Kd.R_alloc | apply Kd.R_drewN | apply Kd.R_drew)); exact Kd.R_mono (Kd.R_far (p := ⟨gb250, 4, none⟩) (Kd.R_far (p := ⟨gb250, 3, none⟩) (Kd.R_far (p := ⟨gb250, 2, none⟩) (Kd.R_far (p := ⟨gb250, 1, none⟩) (Kd.R_far (p := ⟨gb250, 0, none⟩) (Kd.R_mono HO_113.out (fun k_ hk => (⟨hk, hk.2⟩ : _ ∧ k_ ≠ gb250))) (fun _ hk => hk.2) (.int .i64 ((rd_T34 t243 x115_5).f0))) (fun _ hk => hk.2) (.int .i64 ((rd_T34 t243 x115_5).f1))) (fun _ hk => hk.2) (.int .i64 ((rd_T34 t243 x115_5).f2))) (fun _ hk => hk.2) (.int .i64 ((rd_T34 t243 x115_5).f3))) (fun _ hk => hk.2) (.int .i64 ((rd_T34 t243 x115_5).f4))) (fun _ hk => hk.1.2)⟩, ⟨by (with_reducible repeat (first | refine blk_drewN ?_ _ | refine blk_drew ?_ | refine blk_alloc ?_ _)); refine blk_put (cs := #[.int .i64 ((rd_T34 t243 x115_5).f0), .int .i64 ((rd_T34 t243 x115_5).f1), .int .i64 ((rd_T34 t243 x115_5).f2), .int .i64 ((rd_T34 t243 x115_5).f3), .int .i64 0]) ?_ 4 _ rfl; (with_reducible repeat (first | refine blk_drewN ?_ _ | refine blk_drew ?_ | refine blk_alloc ?_ _)); refine blk_put (cs := #[.int .i64 ((rd_T34 t243 x115_5).f0), .int .i64 ((rd_T34 t243 x115_5).f1), .int .i64 ((rd_T34 t243 x115_5).f2), .int .i64 0, .int .i64 0]) ?_ 3 _ rfl; (with_reducible repeat (first | refine blk_drewN ?_ _ | refine blk_drew ?_ | refine blk_alloc ?_ _)); refine blk_put (cs := #[.int .i64 ((rd_T34 t243 x115_5).f0), .int .i64 ((rd_T34 t243 x115_5).f1), .int .i64 0, .int .i64 0, .int .i64 0]) ?_ 2 _ rfl; (with_reducible repeat (first | refine blk_drewN ?_ _ | refine blk_drew ?_ | refine blk_alloc ?_ _)); refine blk_put (cs := #[.int .i64 ((rd_T34 t243 x115_5).f0), .int .i64 0, .int .i64 0, .int .i64 0, .int .i64 0]) ?_ 1 _ rfl; (with_reducible repeat (first | refine blk_drewN ?_ _ | refine blk_drew ?_ | refine blk_alloc ?_ _)); refine blk_put (cs := #[.int .i64 0, .int .i64 0, .int .i64 0, .int .i64 0, .int .i64 0]) ?_ 0 _ rfl; (with_reducible repeat (first | refine blk_drewN ?_ _ | refine blk_drew ?_ | refine blk_alloc ?_ _)); exact BK250.out⟩, ⟨by repeat (first | (with_reducible first | exact HB.out | apply below_alloc | apply pw_below_drewN | apply below_drew1 | refine below_set ?_ GE250.out) | exact HB.out)⟩⟩
                                                case rest =>
                                                  clear HC68
                                                  try clear c1
                                                  try clear c2
                                                  try clear p2
                                                  try clear q2
                                                  try clear hx2
                                                  try clear hf2
                                                  try clear c3
                                                  try clear hx3
                                                  try clear hf3
                                                  try clear c4
                                                  try clear p4
                                                  try clear q4
                                                  try clear c5
                                                  try clear hx5
                                                  try clear hf5
                                                  try clear c6
                                                  try clear p6
                                                  try clear c7
                                                  try clear c8
                                                  try clear c10
                                                  try clear c10b0
                                                  try clear c10b1
                                                  try clear c15
                                                  try clear c16
                                                  try clear c16b0
                                                  try clear c16b1
                                                  try clear c17
                                                  try clear c17b0
                                                  try clear c17b1
                                                  try clear c18
                                                  try clear c18b0
                                                  try clear c18b1
                                                  try clear c19
                                                  try clear c21
                                                  try clear c23
                                                  try clear c23b0
                                                  try clear p23
                                                  try clear q23
                                                  try clear hx23
                                                  try clear c24
                                                  try clear c24b0
                                                  try clear p24
                                                  try clear q24
                                                  try clear hx24
                                                  try clear c25
                                                  try clear c25b0
                                                  try clear c26
                                                  try clear c26b0
                                                  try clear c27
                                                  try clear p27
                                                  try clear q27
                                                  try clear hx27
                                                  try clear hf27
                                                  try clear c35
                                                  try clear hx35
                                                  try clear hf35
                                                  try clear c39
                                                  try clear c39b0
                                                  try clear c40
                                                  try clear c40b0
                                                  try clear c41
                                                  try clear c41b0
                                                  try clear c44
                                                  try clear c44b0
                                                  try clear c45
                                                  try clear c45b0
                                                  try clear c46
                                                  try clear c46b0
                                                  try clear c47
                                                  try clear p48
                                                  try clear q48
                                                  try clear c50
                                                  try clear c52
                                                  try clear hx52
                                                  try clear hf52
                                                  try clear c57
                                                  try clear c57b0
                                                  try clear c57b1
                                                  try clear c60
                                                  try clear c60b0
                                                  try clear c62
                                                  try clear c62b0
                                                  try clear c62b1
                                                  try clear p64
                                                  try clear c65
                                                  try clear c65b0
                                                  try clear c66
                                                  try clear c66b0
                                                  try clear c67
                                                  try clear c67b0
                                                  try clear c71
                                                  try clear c71b0
                                                  try clear c71b1
                                                  try clear hcz30_0
                                                  try clear hcz30_1
                                                  try clear hcz30_2
                                                  try clear hcz30_3
                                                  try clear hcz32_0
                                                  try clear hcz32_1
                                                  try clear hcz32_2
                                                  try clear hcz32_3
                                                  try clear hcz34_0
                                                  try clear hcz34_1
                                                  try clear hcz34_2
                                                  try clear hcz34_3
                                                  try clear hcz37_0
                                                  try clear hcz37_1
                                                  try clear hcz37_2
                                                  try clear hcz37_3
                                                  try clear hcz43_0
                                                  try clear hcz43_1
                                                  try clear hcz43_2
                                                  try clear hcz43_3
                                                  try clear hcz55_0
                                                  try clear hcz55_1
                                                  try clear hcz55_2
                                                  try clear hcz55_3
                                                  try clear hcz70_0
                                                  try clear hcz70_1
                                                  try clear hcz70_2
                                                  try clear hcz70_3
                                                  try clear hcz70_4
                                                  try clear hcz72_0
                                                  try clear hcz72_1
                                                  try clear hcz72_2
                                                  try clear hcz72_3
                                                  try clear hcz72_4
                                                  try clear hcz73_0
                                                  try clear hcz73_1
                                                  try clear hcz73_2
                                                  try clear hcz73_3
                                                  try clear hcz73_4
                                                  try clear hfz30_0
                                                  try clear hfz30_1
                                                  try clear hfz30_2
                                                  try clear hfz30_3
                                                  try clear hfz32_0
                                                  try clear hfz32_1
                                                  try clear hfz32_2
                                                  try clear hfz32_3
                                                  try clear hfz34_0
                                                  try clear hfz34_1
                                                  try clear hfz34_2
                                                  try clear hfz34_3
                                                  try clear hfz37_0
                                                  try clear hfz37_1
                                                  try clear hfz37_2
                                                  try clear hfz37_3
                                                  try clear hfz43_0
                                                  try clear hfz43_1
                                                  try clear hfz43_2
                                                  try clear hfz43_3
                                                  try clear hfz55_0
                                                  try clear hfz55_1
                                                  try clear hfz55_2
                                                  try clear hfz55_3
                                                  try clear hfz70_0
                                                  try clear hfz70_1
                                                  try clear hfz70_2
                                                  try clear hfz70_3
                                                  try clear hfz70_4
                                                  try clear hfz72_0
                                                  try clear hfz72_1
                                                  try clear hfz72_2
                                                  try clear hfz72_3
                                                  try clear hfz72_4
                                                  try clear hfz73_0
                                                  try clear hfz73_1
                                                  try clear hfz73_2
                                                  try clear hfz73_3
                                                  try clear hfz73_4
                                                  try clear hx233_0
                                                  try clear hx233_1
                                                  try clear hx233_2
                                                  try clear hx233_3
                                                  try clear hx236_0
                                                  try clear hx236_1
                                                  try clear hx236_2
                                                  try clear hx236_3
                                                  try clear hx238_0
                                                  try clear hx249_0
                                                  try clear hx249_1
                                                  try clear hx249_2
                                                  try clear hx249_3
                                                  try clear hx249_4
                                                  try clear hx27_0
                                                  try clear hx27_1
                                                  try clear hx27_2
                                                  try clear hx27_3
                                                  try clear hx35_0
                                                  try clear hx35_1
                                                  try clear hx35_2
                                                  try clear hx35_3
                                                  try clear hx52_0
                                                  try clear p2
                                                  try clear p23
                                                  try clear p233
                                                  try clear p236
                                                  try clear p238
                                                  try clear p249
                                                  try clear p27
                                                  try clear p4
                                                  try clear p48
                                                  try clear p6
                                                  try clear p64
                                                  try clear q2
                                                  try clear q23
                                                  try clear q233
                                                  try clear q236
                                                  try clear q238
                                                  try clear q249
                                                  try clear q27
                                                  try clear q4
                                                  try clear q48
                                                  obtain ⟨kq, x129_67, rfl, HA, HJ67, HO_5, HO_13, HO_113, BK250, HB⟩ := hcut
                                                  cases kq with
                                                  | zero => exact absurd HA.out (by simp [ontimelaw44_ResponseExact.j6])
                                                  | succ kj67 =>
                                                    have H := HA.out
                                                    clear HA
                                                    simp only [ontimelaw44_ResponseExact.j6] at H
                                                    by_cases c74 : x129_67 = true
                                                    · subst c74
                                                      have H1 : (if (wrap64 (((rd_T34 t243 x115_5).f3) - ((rd_T34 t243 x115_5).f1))) = t247 then (ontimelaw44_ResponseExact.l4 kj67 a1 x5_2 t243 x102_4 t247 true (x5_2.length : Int) x102_4 t243 (t243.length : Int) (wrap64 (x115_5 + 1))) else (some false)) = some r := by rw [if_pos rfl] at H; exact H
                                                      clear H
                                                      have H := H1
                                                      clear H1
                                                      by_cases c75 : (wrap64 (((rd_T34 t243 x115_5).f3) - ((rd_T34 t243 x115_5).f1))) = t247
                                                      · rw [if_pos c75] at H
                                                        have c75b0 : ((wrap64 (((rd_T34 t243 x115_5).f3) - ((rd_T34 t243 x115_5).f1))) == t247) = true := beq_iff_eq.mpr c75
                                                        have c75b1 : ((wrap64 (((rd_T34 t243 x115_5).f3) - ((rd_T34 t243 x115_5).f1))) != t247) = false := bne_eq_false_iff_eq.mpr c75
                                                        clear c75
                                                        have H' := Aside0.mk H
                                                        clear H
                                                        have hcz76_0 : wc.cell? ⟨gb250, 0, none⟩ = some (.int .i64 ((rd_T34 t243 x115_5).f0)) := (blk_cell BK250.out 0).trans rfl
                                                        have hcz76_1 : wc.cell? ⟨gb250, 1, none⟩ = some (.int .i64 ((rd_T34 t243 x115_5).f1)) := (blk_cell BK250.out 1).trans rfl
                                                        have hcz76_2 : wc.cell? ⟨gb250, 2, none⟩ = some (.int .i64 ((rd_T34 t243 x115_5).f2)) := (blk_cell BK250.out 2).trans rfl
                                                        have hcz76_3 : wc.cell? ⟨gb250, 3, none⟩ = some (.int .i64 ((rd_T34 t243 x115_5).f3)) := (blk_cell BK250.out 3).trans rfl
                                                        have hcz76_4 : wc.cell? ⟨gb250, 4, none⟩ = some (.int .i64 ((rd_T34 t243 x115_5).f4)) := (blk_cell BK250.out 4).trans rfl
                                                        have hfz76_0 := blk_frozen BK250.out 0
                                                        have hfz76_1 := blk_frozen BK250.out 1
                                                        have hfz76_2 := blk_frozen BK250.out 2
                                                        have hfz76_3 := blk_frozen BK250.out 3
                                                        have hfz76_4 := blk_frozen BK250.out 4
                                                        go_wp2
                                                        go_roundg kj67
                                                        case measure => have := HJ4.out; have := HK2.out; have := HK3.out; have := HK4.out; have := HK5.out; have := HJ67.out; omega
                                                        case rel => exact ⟨(true), (wrap64 (x115_5 + 1)), (by first | rfl | (simp; done) | (simp [*]; done)), (by first | rfl | (simp; done) | (simp [*]; done)), H', ⟨by have := HJ4.out; have := HK2.out; have := HK3.out; have := HK4.out; have := HK5.out; have := HJ67.out; omega⟩, ⟨by (with_reducible repeat (first | apply Kd.S_alloc | apply Kd.S_drewN | apply Kd.S_drew)); exact HO_5.out⟩, ⟨by (with_reducible repeat (first | apply Kd.R_alloc | apply Kd.R_drewN | apply Kd.R_drew)); exact Kd.R_mono HO_13.out (fun _ hk => trivial)⟩, ⟨by (with_reducible repeat (first | apply Kd.R_alloc | apply Kd.R_drewN | apply Kd.R_drew)); exact Kd.R_mono HO_113.out (fun _ hk => trivial)⟩, ⟨by repeat (first | (with_reducible first | exact HB.out | apply below_alloc | apply pw_below_drewN | apply below_drew1 | refine below_set ?_ GE250.out) | exact HB.out)⟩⟩
                                                      · rw [if_neg c75] at H
                                                        have c75b0 : ((wrap64 (((rd_T34 t243 x115_5).f3) - ((rd_T34 t243 x115_5).f1))) == t247) = false := beq_eq_false_iff_ne.mpr c75
                                                        have c75b1 : ((wrap64 (((rd_T34 t243 x115_5).f3) - ((rd_T34 t243 x115_5).f1))) != t247) = true := bne_iff_ne.mpr c75
                                                        obtain rfl := Option.some.inj H
                                                        have hcz77_0 : wc.cell? ⟨gb250, 0, none⟩ = some (.int .i64 ((rd_T34 t243 x115_5).f0)) := (blk_cell BK250.out 0).trans rfl
                                                        have hcz77_1 : wc.cell? ⟨gb250, 1, none⟩ = some (.int .i64 ((rd_T34 t243 x115_5).f1)) := (blk_cell BK250.out 1).trans rfl
                                                        have hcz77_2 : wc.cell? ⟨gb250, 2, none⟩ = some (.int .i64 ((rd_T34 t243 x115_5).f2)) := (blk_cell BK250.out 2).trans rfl
                                                        have hcz77_3 : wc.cell? ⟨gb250, 3, none⟩ = some (.int .i64 ((rd_T34 t243 x115_5).f3)) := (blk_cell BK250.out 3).trans rfl
                                                        have hcz77_4 : wc.cell? ⟨gb250, 4, none⟩ = some (.int .i64 ((rd_T34 t243 x115_5).f4)) := (blk_cell BK250.out 4).trans rfl
                                                        have hfz77_0 := blk_frozen BK250.out 0
                                                        have hfz77_1 := blk_frozen BK250.out 1
                                                        have hfz77_2 := blk_frozen BK250.out 2
                                                        have hfz77_3 := blk_frozen BK250.out 3
                                                        have hfz77_4 := blk_frozen BK250.out 4
                                                        go_wp2
                                                        go_ret
                                                        exact ⟨by first | rfl | (simp [errW_none, errW_some] <;> rfl) | (simp [*, errW_none, errW_some] <;> rfl), by repeat (first | (with_reducible first | exact HB.out | apply below_alloc | apply pw_below_drewN | apply below_drew1 | refine below_set ?_ GE250.out) | exact HB.out)⟩
                                                    · replace c74 := Bool.eq_false_iff.mpr c74
                                                      subst c74
                                                      have H1 : (ontimelaw44_ResponseExact.l4 kj67 a1 x5_2 t243 x102_4 t247 x18_5 (x5_2.length : Int) x102_4 t243 (t243.length : Int) (wrap64 (x115_5 + 1))) = some r := by rw [if_neg (show ¬ (false = true) by decide)] at H; exact H
                                                      clear H
                                                      have H := H1
                                                      clear H1
                                                      have H' := Aside0.mk H
                                                      clear H
                                                      go_wp2
                                                      go_roundg kj67
                                                      case measure => have := HJ4.out; have := HK2.out; have := HK3.out; have := HK4.out; have := HK5.out; have := HJ67.out; omega
                                                      case rel => exact ⟨(x18_5), (wrap64 (x115_5 + 1)), (by first | rfl | (simp; done) | (simp [*]; done)), (by first | rfl | (simp; done) | (simp [*]; done)), H', ⟨by have := HJ4.out; have := HK2.out; have := HK3.out; have := HK4.out; have := HK5.out; have := HJ67.out; omega⟩, ⟨by (with_reducible repeat (first | apply Kd.S_alloc | apply Kd.S_drewN | apply Kd.S_drew)); exact HO_5.out⟩, ⟨by (with_reducible repeat (first | apply Kd.R_alloc | apply Kd.R_drewN | apply Kd.R_drew)); exact Kd.R_mono HO_13.out (fun _ hk => trivial)⟩, ⟨by (with_reducible repeat (first | apply Kd.R_alloc | apply Kd.R_drewN | apply Kd.R_drew)); exact Kd.R_mono HO_113.out (fun _ hk => trivial)⟩, ⟨by repeat (first | (with_reducible first | exact HB.out | apply below_alloc | apply pw_below_drewN | apply below_drew1 | refine below_set ?_ GE250.out) | exact HB.out)⟩⟩
                                              · rw [if_neg c67] at H
                                                exact absurd H (by simp)
                                            · rw [if_neg c66] at H
                                              exact absurd H (by simp)
                                          · rw [if_neg c65] at H
                                            have c65b0 : decide (x115_5 < (t243.length : Int)) = false := decide_eq_false c65
                                            clear c65
                                            by_cases c78 : x18_5 = true
                                            · subst c78
                                              have H1 : (ontimelaw44_ResponseExact.l3 k5 a1 x5_2 t243 (x5_2.length : Int) (wrap64 (x102_4 + 1))) = some r := by rw [if_pos rfl] at H; exact H
                                              clear H
                                              have H := H1
                                              clear H1
                                              have H' := Aside0.mk H
                                              clear H
                                              go_wp2
                                              go_roundg k5
                                              case measure => have := HJ4.out; have := HK2.out; have := HK3.out; have := HK4.out; have := HK5.out; omega
                                              case rel => exact ⟨(wrap64 (x102_4 + 1)), (by first | rfl | (simp; done) | (simp [*]; done)), H', ⟨by have := HJ4.out; have := HK2.out; have := HK3.out; have := HK4.out; have := HK5.out; omega⟩, ⟨by (with_reducible repeat (first | apply Kd.S_alloc | apply Kd.S_drewN | apply Kd.S_drew)); exact HO_5.out⟩, ⟨by (with_reducible repeat (first | apply Kd.R_alloc | apply Kd.R_drewN | apply Kd.R_drew)); exact HO_13.out⟩, ⟨by repeat (first | (with_reducible first | exact HB.out | apply below_alloc | apply pw_below_drewN | apply below_drew1) | exact HB.out)⟩⟩
                                            · replace c78 := Bool.eq_false_iff.mpr c78
                                              subst c78
                                              have H1 : (some false) = some r := by rw [if_neg (show ¬ (false = true) by decide)] at H; exact H
                                              clear H
                                              have H := H1
                                              clear H1
                                              obtain rfl := Option.some.inj H
                                              go_wp2
                                              go_ret
                                              exact ⟨by first | rfl | (simp [errW_none, errW_some] <;> rfl) | (simp [*, errW_none, errW_some] <;> rfl), by repeat (first | (with_reducible first | exact HB.out | apply below_alloc | apply pw_below_drewN | apply below_drew1) | exact HB.out)⟩
                                    · rw [if_neg c62] at H
                                      have c62b0 : (t248 == 0) = false := beq_eq_false_iff_ne.mpr c62
                                      have c62b1 : (t248 != 0) = true := bne_iff_ne.mpr c62
                                      have H' := Aside0.mk H
                                      clear H
                                      go_wp2_with (first | ((with_reducible refine gate_callee (f := 23) rfl ?_); refine goesL_ (some 108) rfl rfl Try.func23 (by kernel_rfl) rfl #[.slice Ao38 x5_2.length co38, .int .i64 x102_4] rfl (by (try simp only [List.map_toArray, List.map_cons, List.map_nil]); first | done | rfl | (simp only [List.length_drop, List.length_take]; rfl)) ?_; (with_reducible refine (response_Response.calls k4 _ _ x5_2 x102_4 t247 t248 _ ?side1 ?side2 A61.out).mono ?_); (case side1 => repeat (first | exact (Kd.S_reads' HO_5.out).2.2 | (with_reducible refine Kd.C_alloc ?_ _) | (with_reducible refine Kd.C_drewN ?_ _) | (with_reducible refine Kd.C_drew ?_))); (case side2 => exact (Kd.S_reads' HO_5.out).2.1); rintro e w79 ⟨rfl, hb⟩; refine ⟨_, rfl, ?_⟩; have n0_ := Aside0.mk (Kd.S_below (by (with_reducible repeat (first | apply Kd.S_alloc | apply Kd.S_drewN | apply Kd.S_drew)); exact HO_5.out) hb); have n1_ := Aside0.mk (Kd.R_below (by (with_reducible repeat (first | apply Kd.R_alloc | apply Kd.R_drewN | apply Kd.R_drew)); exact HO_13.out) hb); have n2_ := Aside0.mk (below_step (by repeat (first | (with_reducible first | exact HB.out | apply below_alloc | apply pw_below_drewN | apply below_drew1) | exact HB.out)) hb); clear HO_5; clear HO_13; clear HB; have HO_5 := n0_; have HO_13 := n1_; have HB := n2_; clear n0_ n1_ n2_; (try clear hb); (try clear hb2); (try clear hk); (try clear hi)))
                                      go_roundg k4
                                      case measure => have := HJ4.out; have := HK2.out; have := HK3.out; have := HK4.out; omega
                                      case rel => exact ⟨(wrap64 (x102_4 + 1)), (by first | rfl | (simp; done) | (simp [*]; done)), H', ⟨by have := HJ4.out; have := HK2.out; have := HK3.out; have := HK4.out; omega⟩, ⟨by (with_reducible repeat (first | apply Kd.S_alloc | apply Kd.S_drewN | apply Kd.S_drew)); exact HO_5.out⟩, ⟨by (with_reducible repeat (first | apply Kd.R_alloc | apply Kd.R_drewN | apply Kd.R_drew)); exact HO_13.out⟩, ⟨by repeat (first | (with_reducible first | exact HB.out | apply below_alloc | apply pw_below_drewN | apply below_drew1) | exact HB.out)⟩⟩
                                  · rw [if_neg c60] at H
                                    have c60b0 : decide (x102_4 < (x5_2.length : Int)) = false := decide_eq_false c60
                                    clear c60
                                    obtain rfl := Option.some.inj H
                                    go_wp2
                                    go_ret
                                    exact ⟨by first | rfl | (simp [errW_none, errW_some] <;> rfl) | (simp [*, errW_none, errW_some] <;> rfl), by repeat (first | (with_reducible first | exact HB.out | apply below_alloc | apply pw_below_drewN | apply below_drew1) | exact HB.out)⟩
                            · rw [if_neg c57] at H
                              have c57b0 : (t244 == 0) = false := beq_eq_false_iff_ne.mpr c57
                              have c57b1 : (t244 != 0) = true := bne_iff_ne.mpr c57
                              obtain rfl := Option.some.inj H
                              obtain ⟨Ao80, co80, eo80⟩ := Kd.S_slice HO_6.out
                              subst eo80
                              go_wp2_with (first | ((with_reducible refine gate_callee (f := 21) rfl ?_); refine goesL_ (some 95) rfl rfl Try.func21 (by kernel_rfl) rfl #[.slice Ao38 x5_2.length co38, .slice Ao80 x6_3.length co80, .int .i64 (wrap64 ((wrap64 (a1)) + x7_2))] rfl (by (try simp only [List.map_toArray, List.map_cons, List.map_nil]); first | done | rfl | (simp only [List.length_drop, List.length_take]; rfl)) ?_; (with_reducible refine (ceiling_Simulate.calls k3 _ _ x5_2 _ _ x6_3 (wrap64 ((wrap64 (a1)) + x7_2)) t243 t244 _ ?side1 ?side2 ?side3 ?side4 A56.out).mono ?_); (case side1 => repeat (first | exact (Kd.S_reads' HO_5.out).2.2 | (with_reducible refine Kd.C_alloc ?_ _) | (with_reducible refine Kd.C_drewN ?_ _) | (with_reducible refine Kd.C_drew ?_))); (case side2 => exact (Kd.S_reads' HO_5.out).2.1); (case side3 => repeat (first | exact (Kd.S_reads' HO_6.out).2.2 | (with_reducible refine Kd.C_alloc ?_ _) | (with_reducible refine Kd.C_drewN ?_ _) | (with_reducible refine Kd.C_drew ?_))); (case side4 => exact (Kd.S_reads' HO_6.out).2.1); rintro e w81 ⟨v245, rfl, ho0, hb⟩; refine ⟨_, rfl, ?_⟩; have n0_ := Aside0.mk (Kd.S_below (by (with_reducible repeat (first | apply Kd.S_alloc | apply Kd.S_drewN | apply Kd.S_drew)); exact HO_5.out) hb); have n1_ := Aside0.mk (Kd.S_below (by (with_reducible repeat (first | apply Kd.S_alloc | apply Kd.S_drewN | apply Kd.S_drew)); exact HO_6.out) hb); have n2_ := Aside0.mk (Kd.S_below (by (with_reducible repeat (first | apply Kd.S_alloc | apply Kd.S_drewN | apply Kd.S_drew)); exact HO_58.out) hb); have n3_ := Aside0.mk (Kd.R_lower ho0 (below_size (by repeat (first | (with_reducible first | exact HB.out | apply below_alloc | apply pw_below_drewN | apply below_drew1) | exact HB.out)))); have n4_ := Aside0.mk (below_step (by repeat (first | (with_reducible first | exact HB.out | apply below_alloc | apply pw_below_drewN | apply below_drew1) | exact HB.out)) hb); clear HO_5; clear HO_6; clear HO_58; clear HB; have HO_5 := n0_; have HO_6 := n1_; have HO_58 := n2_; have HO246 := n3_; have HB := n4_; clear n0_ n1_ n2_ n3_ n4_; (try clear hb); (try clear hb2); (try clear hk); (try clear hi); (try clear ho0)))
                              go_ret
                              exact ⟨by first | rfl | (simp [errW_none, errW_some] <;> rfl) | (simp [*, errW_none, errW_some] <;> rfl), by repeat (first | (with_reducible first | exact HB.out | apply below_alloc | apply pw_below_drewN | apply below_drew1) | exact HB.out)⟩
              · rw [if_neg c18] at H
                exact absurd H (by simp)
            · rw [if_neg c17] at H
              exact absurd H (by simp)
          · rw [if_neg c16] at H
            exact absurd H (by simp)
  · replace c4 := Bool.eq_false_iff.mpr c4
    subst c4
    have H1 : (some false) = some r := by rw [if_neg (show ¬ (false = true) by decide)] at H; exact H
    clear H
    have H := H1
    clear H1
    obtain rfl := Option.some.inj H
    go_enter Try.func5, Try.ntmps5
    go_wp2_with (first | ((with_reducible refine gate_callee (f := 18) rfl ?_); refine goesL_ (some 21) rfl rfl Try.func18 (by kernel_rfl) rfl #[] rfl (by (try simp only [List.map_toArray, List.map_cons, List.map_nil]); first | done | rfl | (simp only [List.length_drop, List.length_take]; rfl)) ?_; (with_reducible refine (ontimelaw44_awake.calls k  false _ A3.out).mono ?_); rintro e w82 ⟨rfl, hb⟩; refine ⟨_, rfl, ?_⟩; have n0_ := Aside0.mk (below_step (by repeat (first | (with_reducible first | exact HB.out | apply below_alloc | apply pw_below_drewN | apply below_drew1) | exact HB.out)) hb); clear HB; have HB := n0_; clear n0_; (try clear hb); (try clear hb2); (try clear hk); (try clear hi)))
    go_ret
    exact ⟨by first | rfl | (simp [errW_none, errW_some] <;> rfl) | (simp [*, errW_none, errW_some] <;> rfl), by repeat (first | (with_reducible first | exact HB.out | apply below_alloc | apply pw_below_drewN | apply below_drew1) | exact HB.out)⟩

end Go.Proofs.Ytcmifojplgmgkaa.P
