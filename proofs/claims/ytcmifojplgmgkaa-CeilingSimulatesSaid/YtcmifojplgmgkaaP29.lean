-- written by wip/drive.py (a driver of this session's own over the kit's print.py)
import Derived.Test.YtcmifojplgmgkaaP0
import Derived.Test.YtcmifojplgmgkaaP1
import Derived.Test.YtcmifojplgmgkaaP16
namespace Go.Proofs.Ytcmifojplgmgkaa.P
open Go.RowKit Go.Proofs.YtcmifojplgmgkaaW.PrintWords Go.Proofs.YtcmifojplgmgkaaW.PrintLast Go.Proofs.YtcmifojplgmgkaaW.PrintMore
attribute [local go_sem] max2_int min2_int max_two min_two max_three min_three max_four min_four   -- for this text's walks alone
set_option linter.unusedVariables false
set_option linter.unusedSimpArgs false

attribute [local go_sem high] eqA34
/-! ### ceiling_Job: function 38 -/
def ceiling_Job.l0 : Nat → List (S34) → List (S34) → Int → Int → Option (Bool)
  | 0, _, _, _, _ => none
  | k + 1, x0, x1, x12, x13 => if x13 < x12 then (if 0 ≤ x13 then (if x13 < (x0.length : Int) then (if x13 < (x1.length : Int) then (if (!(((rd_T34 x0 x13).f0) == ((rd_T34 x1 x13).f0)) || (!(((rd_T34 x0 x13).f1) == ((rd_T34 x1 x13).f1)) || (!(((rd_T34 x0 x13).f2) == ((rd_T34 x1 x13).f2)) || (!(((rd_T34 x0 x13).f3) == ((rd_T34 x1 x13).f3)) || (!(((rd_T34 x0 x13).f4) == ((rd_T34 x1 x13).f4))))))) = true then (some false) else (ceiling_Job.l0 k x0 x1 x12 (wrap64 (x13 + 1)))) else (none)) else (none)) else (none)) else (some true)
def ceiling_Job.f (k : Nat) (l0 : List (S34)) (l1 : List (S34)) : Option (Bool) := if (l0.length : Int) = (l1.length : Int) then (ceiling_Job.l0 k l0 l1 (l0.length : Int) 0) else (some false)
theorem ceiling_Job.mono_l : ∀ k, (∀ y0 y1 y2 y3, LeO (ceiling_Job.l0 k y0 y1 y2 y3) (ceiling_Job.l0 (k + 1) y0 y1 y2 y3))
  | 0 => fun _ _ _ _ r h => by simp [ceiling_Job.l0] at h
  | k + 1 => by
    have ih0 := ceiling_Job.mono_l k
    · intro y0 y1 y2 y3
      unfold ceiling_Job.l0
      repeat' first
      | (with_reducible exact ih0 _ _ _ _)
      | (with_reducible exact LeO.refl _)
      | (with_reducible exact LeO.none _)
      | (with_reducible refine LeO.ite ?_ ?_)
      | (with_reducible refine LeO.bind ?_ (fun _ => ?_))
      | exact ih0 _ _ _ _
      | exact LeO.none _
      | refine LeO.ite ?_ ?_
      | refine LeO.bind ?_ (fun _ => ?_)
theorem ceiling_Job.mono : ∀ a0 a1 k, LeO (ceiling_Job.f k a0 a1) (ceiling_Job.f (k + 1) a0 a1) := by
  intro a0 a1 k
  have ih0 := ceiling_Job.mono_l k
  unfold ceiling_Job.f
  repeat' first
      | (with_reducible exact ih0 _ _ _ _)
      | (with_reducible exact LeO.refl _)
      | (with_reducible exact LeO.none _)
      | (with_reducible refine LeO.ite ?_ ?_)
      | (with_reducible refine LeO.bind ?_ (fun _ => ?_))
      | exact ih0 _ _ _ _
      | exact LeO.none _
      | refine LeO.ite ?_ ?_
      | refine LeO.bind ?_ (fun _ => ?_)
set_option maxHeartbeats 8000000 in
set_option maxRecDepth 100000 in
theorem ceiling_Job.calls (k : Nat) (A0 : Option Addr) (c0 : Nat) (l0 : List (S34)) (A1 : Option Addr) (c1 : Nat) (l1 : List (S34)) (r : Bool) (w : World) (hr0 : Kd.C k34 w A0 l0.length l0) (hc0 : l0.length ≤ c0) (hr1 : Kd.C k34 w A1 l1.length l1) (hc1 : l1.length ≤ c1) (h : ceiling_Job.f k l0 l1 = some r) :
    Calls Try.prog 38 #[.slice A0 l0.length c0, .slice A1 l1.length c1] w fun e w' => e = .returned (.bool r) ∧ Drawn0 w w' := by
  have hu34 := Try.underlying34
  have HR0 := Aside0.mk hr0
  have HC0 := Aside0.mk hc0
  clear hr0 hc0
  have HR1 := Aside0.mk hr1
  have HC1 := Aside0.mk hc1
  clear hr1 hc1
  have H : (if (l0.length : Int) = (l1.length : Int) then (ceiling_Job.l0 k l0 l1 (l0.length : Int) 0) else (some false)) = some r := h
  clear h
  by_cases c3 : (l0.length : Int) = (l1.length : Int)
  · rw [if_pos c3] at H
    have c3b0 : ((l0.length : Int) == (l1.length : Int)) = true := beq_iff_eq.mpr c3
    have c3b1 : ((l0.length : Int) != (l1.length : Int)) = false := bne_eq_false_iff_eq.mpr c3
    have c3b2 : (l0.length == l1.length) = true := by first | simpa using c3 | (simp at c3 ⊢; omega)
    clear c3
    have H' := Aside0.mk H
    clear H
    go_enter Try.func38, Try.ntmps38
    go_wp2
    repeat (go_quiet (fail); try go_wp2)
    go_loopg [13] k (fun kq v13 w' => ∃ (x13_1 : Int), v13 = .int .i64 x13_1 ∧ Aside0 (ceiling_Job.l0 kq l0 l1 (l0.length : Int) x13_1 = some r) ∧ Aside0 (kq ≤ k) ∧ Drawn0 w w')
    case atStart => exact ⟨(0), (by first | rfl | (simp; done) | (simp [*]; done)), H', ⟨Nat.le_refl _⟩, by repeat (first | exact Drawn0.refl _ | apply Drawn0.step)⟩
    case round =>
      clear H'
      try clear c1
      try clear p2
      try clear c3
      try clear c3b0
      try clear c3b1
      try clear c3b2
      obtain ⟨x13_1, rfl, HA, HK1, ⟨m1, rfl⟩⟩ := hrel
      cases gk with
      | zero => exact absurd HA.out (by simp [ceiling_Job.l0])
      | succ k1 =>
        have H := HA.out
        clear HA
        simp only [ceiling_Job.l0] at H
        by_cases c4 : x13_1 < (l0.length : Int)
        · rw [if_pos c4] at H
          have c4b0 : decide (x13_1 < (l0.length : Int)) = true := decide_eq_true c4
          clear c4
          by_cases c5 : 0 ≤ x13_1
          · rw [if_pos c5] at H
            have c5b0 : decide (0 ≤ x13_1) = true := decide_eq_true c5
            clear c5
            by_cases c6 : x13_1 < (l0.length : Int)
            · rw [if_pos c6] at H
              have c6b0 : decide (x13_1 < (l0.length : Int)) = true := decide_eq_true c6
              clear c6
              by_cases c7 : x13_1 < (l1.length : Int)
              · rw [if_pos c7] at H
                have c7b0 : decide (x13_1 < (l1.length : Int)) = true := decide_eq_true c7
                clear c7
                by_cases c8 : (!(((rd_T34 l0 x13_1).f0) == ((rd_T34 l1 x13_1).f0)) || (!(((rd_T34 l0 x13_1).f1) == ((rd_T34 l1 x13_1).f1)) || (!(((rd_T34 l0 x13_1).f2) == ((rd_T34 l1 x13_1).f2)) || (!(((rd_T34 l0 x13_1).f3) == ((rd_T34 l1 x13_1).f3)) || (!(((rd_T34 l0 x13_1).f4) == ((rd_T34 l1 x13_1).f4))))))) = true
                · rw [if_pos c8] at H
                  have c8b0 : (!(((rd_T34 l0 x13_1).f0) == ((rd_T34 l1 x13_1).f0)) || (!(((rd_T34 l0 x13_1).f1) == ((rd_T34 l1 x13_1).f1)) || (!(((rd_T34 l0 x13_1).f2) == ((rd_T34 l1 x13_1).f2)) || (!(((rd_T34 l0 x13_1).f3) == ((rd_T34 l1 x13_1).f3)) || (!(((rd_T34 l0 x13_1).f4) == ((rd_T34 l1 x13_1).f4))))))) = true := c8
                  clear c8
                  obtain rfl := Option.some.inj H
                  have p316 : 0 ≤ (x13_1 : Int) := of_decide_eq_true (by first | (with_reducible assumption) | assumption)
                  have q316 : x13_1 < (l0.length : Int) := of_decide_eq_true (by first | (with_reducible assumption) | assumption)
                  obtain ⟨ad316, e316, hx316_0, hx316_1, hx316_2, hx316_3, hx316_4⟩ := at_T34 HR0.out x13_1 p316 q316
                  cases e316
                  replace p316 := eq_true p316
                  replace q316 := eq_true q316
                  have p317 : 0 ≤ (x13_1 : Int) := of_decide_eq_true (by first | (with_reducible assumption) | assumption)
                  have q317 : x13_1 < (l1.length : Int) := of_decide_eq_true (by first | (with_reducible assumption) | assumption)
                  obtain ⟨ad317, e317, hx317_0, hx317_1, hx317_2, hx317_3, hx317_4⟩ := at_T34 HR1.out x13_1 p317 q317
                  cases e317
                  replace p317 := eq_true p317
                  replace q317 := eq_true q317
                  go_wp2
                  repeat (go_quiet (fail); try go_wp2)
                  go_ret
                  exact ⟨by first | rfl | (simp; done) | (simp [*]; done), by repeat (first | exact Drawn0.refl _ | apply Drawn0.step)⟩
                · rw [if_neg c8] at H
                  have c8b0 : (!(((rd_T34 l0 x13_1).f0) == ((rd_T34 l1 x13_1).f0)) || (!(((rd_T34 l0 x13_1).f1) == ((rd_T34 l1 x13_1).f1)) || (!(((rd_T34 l0 x13_1).f2) == ((rd_T34 l1 x13_1).f2)) || (!(((rd_T34 l0 x13_1).f3) == ((rd_T34 l1 x13_1).f3)) || (!(((rd_T34 l0 x13_1).f4) == ((rd_T34 l1 x13_1).f4))))))) = false := by simpa using c8
                  clear c8
                  have H' := Aside0.mk H
                  clear H
                  have p316 : 0 ≤ (x13_1 : Int) := of_decide_eq_true (by first | (with_reducible assumption) | assumption)
                  have q316 : x13_1 < (l0.length : Int) := of_decide_eq_true (by first | (with_reducible assumption) | assumption)
                  obtain ⟨ad316, e316, hx316_0, hx316_1, hx316_2, hx316_3, hx316_4⟩ := at_T34 HR0.out x13_1 p316 q316
                  cases e316
                  replace p316 := eq_true p316
                  replace q316 := eq_true q316
                  have p317 : 0 ≤ (x13_1 : Int) := of_decide_eq_true (by first | (with_reducible assumption) | assumption)
                  have q317 : x13_1 < (l1.length : Int) := of_decide_eq_true (by first | (with_reducible assumption) | assumption)
                  obtain ⟨ad317, e317, hx317_0, hx317_1, hx317_2, hx317_3, hx317_4⟩ := at_T34 HR1.out x13_1 p317 q317
                  cases e317
                  replace p317 := eq_true p317
                  replace q317 := eq_true q317
                  go_wp2
                  repeat (go_quiet (fail); try go_wp2)
                  go_roundg k1
                  case measure => have := HK1.out; omega
                  case rel => exact ⟨(wrap64 (x13_1 + 1)), (by first | rfl | (simp; done) | (simp [*]; done)), H', ⟨by have := HK1.out; omega⟩, by repeat (first | exact Drawn0.refl _ | apply Drawn0.step)⟩
              · rw [if_neg c7] at H
                exact absurd H (by simp)
            · rw [if_neg c6] at H
              exact absurd H (by simp)
          · rw [if_neg c5] at H
            exact absurd H (by simp)
        · rw [if_neg c4] at H
          have c4b0 : decide (x13_1 < (l0.length : Int)) = false := decide_eq_false c4
          clear c4
          obtain rfl := Option.some.inj H
          go_wp2
          repeat (go_quiet (fail); try go_wp2)
          go_ret
          exact ⟨by first | rfl | (simp; done) | (simp [*]; done), by repeat (first | exact Drawn0.refl _ | apply Drawn0.step)⟩
  · rw [if_neg c3] at H
    have c3b0 : ((l0.length : Int) == (l1.length : Int)) = false := beq_eq_false_iff_ne.mpr c3
    have c3b1 : ((l0.length : Int) != (l1.length : Int)) = true := bne_iff_ne.mpr c3
    have c3b2 : (l0.length == l1.length) = false := by first | simpa using c3 | (simp at c3 ⊢; omega)
    obtain rfl := Option.some.inj H
    go_enter Try.func38, Try.ntmps38
    go_wp2
    repeat (go_quiet (fail); try go_wp2)
    go_ret
    exact ⟨by first | rfl | (simp; done) | (simp [*]; done), by repeat (first | exact Drawn0.refl _ | apply Drawn0.step)⟩

/-! ### ontimelaw43_awake: function 32 -/
def ontimelaw43_awake.f (k : Nat)  : Option (Bool) := (ceiling_Simulate.f k (([(⟨1, 9, 9, (([(⟨5, 0, 1⟩ : S68)] : List (S68)))⟩ : S49), (⟨4, 9, 9, (([(⟨5, 1, 3⟩ : S68)] : List (S68)))⟩ : S49)] : List (S49))) (([(([2] : List Int)), (([0] : List Int))] : List (List Int))) 9).bind fun bt336 => (if bt336.2 = 0 then ((ceiling_Job.f k bt336.1 (([(⟨0, 2, 3, 4, 1⟩ : S34), (⟨1, 0, 0, 5, 0⟩ : S34)] : List (S34)))).bind fun t343 => (some t343)) else (some false))
theorem ontimelaw43_awake.mono : ∀ k, LeO (ontimelaw43_awake.f k ) (ontimelaw43_awake.f (k + 1) ) := by
  intro  k
  unfold ontimelaw43_awake.f
  repeat' first
      | (with_reducible exact ceiling_Job.mono _ _ _)
      | (with_reducible exact ceiling_Simulate.mono _ _ _ _)
      | (with_reducible exact LeO.refl _)
      | (with_reducible exact LeO.none _)
      | (with_reducible refine LeO.ite ?_ ?_)
      | (with_reducible refine LeO.bind ?_ (fun _ => ?_))
      | exact ceiling_Job.mono _ _ _
      | exact ceiling_Simulate.mono _ _ _ _
      | exact LeO.none _
      | refine LeO.ite ?_ ?_
      | refine LeO.bind ?_ (fun _ => ?_)
set_option maxHeartbeats 8000000 in
set_option maxRecDepth 100000 in
theorem ontimelaw43_awake.calls (k : Nat)  (r : Bool) (w : World) (h : ontimelaw43_awake.f k  = some r) :
    Calls Try.prog 32 #[] w fun e w' => e = .returned (.bool r) ∧ Below w.heap.size w w' := by
  have hu68 := Try.underlying68
  have hu49 := Try.underlying49
  have hu34 := Try.underlying34
  have HB := Aside0.mk (Below.refl w.heap.size w)
  have H : ((ceiling_Simulate.f k (([(⟨1, 9, 9, (([(⟨5, 0, 1⟩ : S68)] : List (S68)))⟩ : S49), (⟨4, 9, 9, (([(⟨5, 1, 3⟩ : S68)] : List (S68)))⟩ : S49)] : List (S49))) (([(([2] : List Int)), (([0] : List Int))] : List (List Int))) 9).bind fun bt336 => (if bt336.2 = 0 then ((ceiling_Job.f k bt336.1 (([(⟨0, 2, 3, 4, 1⟩ : S34), (⟨1, 0, 0, 5, 0⟩ : S34)] : List (S34)))).bind fun t343 => (some t343)) else (some false))) = some r := h
  clear h
  obtain ⟨y318, hy318⟩ : ∃ y_ : List (S68), y_ = (([(⟨5, 0, 1⟩ : S68)] : List (S68))) := ⟨_, rfl⟩
  replace H : ((ceiling_Simulate.f k (([(⟨1, 9, 9, y318⟩ : S49), (⟨4, 9, 9, (([(⟨5, 1, 3⟩ : S68)] : List (S68)))⟩ : S49)] : List (S49))) (([(([2] : List Int)), (([0] : List Int))] : List (List Int))) 9).bind fun bt336 => (if bt336.2 = 0 then ((ceiling_Job.f k bt336.1 (([(⟨0, 2, 3, 4, 1⟩ : S34), (⟨1, 0, 0, 5, 0⟩ : S34)] : List (S34)))).bind fun t343 => (some t343)) else (some false))) = some r := by first | (rw [hy318]; with_reducible exact H) | (have H2_ := (Option.bind_some _ _).symm.trans H; rw [hy318]; with_reducible exact H2_) | (have H2_ := (Option.bind_some _ _).symm.trans H; with_reducible exact H2_) | with_reducible exact H | (rw [hy318]; exact H) | exact H
  have Ny318 := Aside0.mk hy318
  clear hy318
  obtain ⟨y321, hy321⟩ : ∃ y_ : List (S68), y_ = (([(⟨5, 1, 3⟩ : S68)] : List (S68))) := ⟨_, rfl⟩
  replace H : ((ceiling_Simulate.f k (([(⟨1, 9, 9, y318⟩ : S49), (⟨4, 9, 9, y321⟩ : S49)] : List (S49))) (([(([2] : List Int)), (([0] : List Int))] : List (List Int))) 9).bind fun bt336 => (if bt336.2 = 0 then ((ceiling_Job.f k bt336.1 (([(⟨0, 2, 3, 4, 1⟩ : S34), (⟨1, 0, 0, 5, 0⟩ : S34)] : List (S34)))).bind fun t343 => (some t343)) else (some false))) = some r := by first | (rw [hy321]; with_reducible exact H) | (have H2_ := (Option.bind_some _ _).symm.trans H; rw [hy321]; with_reducible exact H2_) | (have H2_ := (Option.bind_some _ _).symm.trans H; with_reducible exact H2_) | with_reducible exact H | (rw [hy321]; exact H) | exact H
  have Ny321 := Aside0.mk hy321
  clear hy321
  obtain ⟨y324, hy324⟩ : ∃ y_ : List (S49), y_ = (([(⟨1, 9, 9, y318⟩ : S49), (⟨4, 9, 9, y321⟩ : S49)] : List (S49))) := ⟨_, rfl⟩
  replace H : ((ceiling_Simulate.f k y324 (([(([2] : List Int)), (([0] : List Int))] : List (List Int))) 9).bind fun bt336 => (if bt336.2 = 0 then ((ceiling_Job.f k bt336.1 (([(⟨0, 2, 3, 4, 1⟩ : S34), (⟨1, 0, 0, 5, 0⟩ : S34)] : List (S34)))).bind fun t343 => (some t343)) else (some false))) = some r := by first | (rw [hy324]; with_reducible exact H) | (have H2_ := (Option.bind_some _ _).symm.trans H; rw [hy324]; with_reducible exact H2_) | (have H2_ := (Option.bind_some _ _).symm.trans H; with_reducible exact H2_) | with_reducible exact H | (rw [hy324]; exact H) | exact H
  have Ny324 := Aside0.mk hy324
  clear hy324
  obtain ⟨y327, hy327⟩ : ∃ y_ : List Int, y_ = (([2] : List Int)) := ⟨_, rfl⟩
  replace H : ((ceiling_Simulate.f k y324 (([y327, (([0] : List Int))] : List (List Int))) 9).bind fun bt336 => (if bt336.2 = 0 then ((ceiling_Job.f k bt336.1 (([(⟨0, 2, 3, 4, 1⟩ : S34), (⟨1, 0, 0, 5, 0⟩ : S34)] : List (S34)))).bind fun t343 => (some t343)) else (some false))) = some r := by first | (rw [hy327]; with_reducible exact H) | (have H2_ := (Option.bind_some _ _).symm.trans H; rw [hy327]; with_reducible exact H2_) | (have H2_ := (Option.bind_some _ _).symm.trans H; with_reducible exact H2_) | with_reducible exact H | (rw [hy327]; exact H) | exact H
  have Ny327 := Aside0.mk hy327
  clear hy327
  obtain ⟨y330, hy330⟩ : ∃ y_ : List Int, y_ = (([0] : List Int)) := ⟨_, rfl⟩
  replace H : ((ceiling_Simulate.f k y324 (([y327, y330] : List (List Int))) 9).bind fun bt336 => (if bt336.2 = 0 then ((ceiling_Job.f k bt336.1 (([(⟨0, 2, 3, 4, 1⟩ : S34), (⟨1, 0, 0, 5, 0⟩ : S34)] : List (S34)))).bind fun t343 => (some t343)) else (some false))) = some r := by first | (rw [hy330]; with_reducible exact H) | (have H2_ := (Option.bind_some _ _).symm.trans H; rw [hy330]; with_reducible exact H2_) | (have H2_ := (Option.bind_some _ _).symm.trans H; with_reducible exact H2_) | with_reducible exact H | (rw [hy330]; exact H) | exact H
  have Ny330 := Aside0.mk hy330
  clear hy330
  obtain ⟨y333, hy333⟩ : ∃ y_ : List (List Int), y_ = (([y327, y330] : List (List Int))) := ⟨_, rfl⟩
  replace H : ((ceiling_Simulate.f k y324 y333 9).bind fun bt336 => (if bt336.2 = 0 then ((ceiling_Job.f k bt336.1 (([(⟨0, 2, 3, 4, 1⟩ : S34), (⟨1, 0, 0, 5, 0⟩ : S34)] : List (S34)))).bind fun t343 => (some t343)) else (some false))) = some r := by first | (rw [hy333]; with_reducible exact H) | (have H2_ := (Option.bind_some _ _).symm.trans H; rw [hy333]; with_reducible exact H2_) | (have H2_ := (Option.bind_some _ _).symm.trans H; with_reducible exact H2_) | with_reducible exact H | (rw [hy333]; exact H) | exact H
  have Ny333 := Aside0.mk hy333
  clear hy333
  replace H := Option.bind_eq_some_iff.mp H
  obtain ⟨⟨t336, t337⟩, A10, H⟩ := H
  replace H : (if t337 = 0 then ((ceiling_Job.f k t336 (([(⟨0, 2, 3, 4, 1⟩ : S34), (⟨1, 0, 0, 5, 0⟩ : S34)] : List (S34)))).bind fun t343 => (some t343)) else (some false)) = some r := H
  have A1 := Aside0.mk A10
  clear A10
  by_cases c2 : t337 = 0
  · rw [if_pos c2] at H
    have c2b0 : (t337 == 0) = true := beq_iff_eq.mpr c2
    have c2b1 : (t337 != 0) = false := bne_eq_false_iff_eq.mpr c2
    clear c2
    obtain ⟨y340, hy340⟩ : ∃ y_ : List (S34), y_ = (([(⟨0, 2, 3, 4, 1⟩ : S34), (⟨1, 0, 0, 5, 0⟩ : S34)] : List (S34))) := ⟨_, rfl⟩
    replace H : ((ceiling_Job.f k t336 y340).bind fun t343 => (some t343)) = some r := by first | (rw [hy340]; with_reducible exact H) | (have H2_ := (Option.bind_some _ _).symm.trans H; rw [hy340]; with_reducible exact H2_) | (have H2_ := (Option.bind_some _ _).symm.trans H; with_reducible exact H2_) | with_reducible exact H | (rw [hy340]; exact H) | exact H
    have Ny340 := Aside0.mk hy340
    clear hy340
    replace H := Option.bind_eq_some_iff.mp H
    obtain ⟨t343, A30, H⟩ := H
    replace H : (some t343) = some r := H
    have A3 := Aside0.mk A30
    clear A30
    obtain rfl := Option.some.inj H
    go_enter Try.func32, Try.ntmps32
    go_wp2_with (first | ((with_reducible refine gate_dst (N := 5) rfl ?_); (try (refine gate_guard (by rfl) ?_; dsimp only)); refine Kd.R_lit k68 _ 68 ?hg (N := 5) ?hd (xs := ([(⟨5, 0, 1⟩ : S68)] : List (S68))) (inner := [.int .i64 5, .int .i64 0, .int .i64 1]) (ok := fun _ => True) (okp := fun _ => True) ?hr ?hp (fun _ hk => hk) trivial (Below.refl _ _) (Nat.le_refl _) (by simp) ?_; (case hd => rfl); (case hg => rfl); (case hr => first | (go_simp; done) | (go_simp; rfl)); (case hp => exact (Reps.c3 (show Kd.M k68 _ _ _ (⟨5, 0, 1⟩ : S68) [.int .i64 5, .int .i64 0, .int .i64 1] from (k68_mkM _ _ _ (⟨5, 0, 1⟩ : S68) )) (Reps.none _ _))); intro v319 w4 ho5 hb hg_ hnew_; clear hg_ hnew_; (first | rw [← Ny318.out] at ho5 | (simp only [Int.reduceToNat] at ho5; rw [← Ny318.out] at ho5)); have n0_ := Aside0.mk (Kd.R_lower ho5 (below_size (by repeat (first | (with_reducible first | exact HB.out | apply below_alloc | apply pw_below_drewN | apply below_drew1) | exact HB.out)))); have n1_ := Aside0.mk (below_step (by repeat (first | (with_reducible first | exact HB.out | apply below_alloc | apply pw_below_drewN | apply below_drew1) | exact HB.out)) hb); clear HB; have HO320 := n0_; have HB := n1_; clear n0_ n1_; clear hb ho5; obtain ⟨Ao6, co6, eo6⟩ := Kd.R_slice HO320.out; subst eo6) | ((with_reducible refine gate_dst (N := 8) rfl ?_); (try (refine gate_guard (by rfl) ?_; dsimp only)); refine Kd.R_lit k68 _ 68 ?hg (N := 8) ?hd (xs := ([(⟨5, 1, 3⟩ : S68)] : List (S68))) (inner := [.int .i64 5, .int .i64 1, .int .i64 3]) (ok := fun _ => True) (okp := fun _ => True) ?hr ?hp (fun _ hk => hk) trivial (Below.refl _ _) (Nat.le_refl _) (by simp) ?_; (case hd => rfl); (case hg => rfl); (case hr => first | (go_simp; done) | (go_simp; rfl)); (case hp => exact (Reps.c3 (show Kd.M k68 _ _ _ (⟨5, 1, 3⟩ : S68) [.int .i64 5, .int .i64 1, .int .i64 3] from (k68_mkM _ _ _ (⟨5, 1, 3⟩ : S68) )) (Reps.none _ _))); intro v322 w7 ho8 hb hg_ hnew_; clear hg_ hnew_; (first | rw [← Ny321.out] at ho8 | (simp only [Int.reduceToNat] at ho8; rw [← Ny321.out] at ho8)); have n0_ := Aside0.mk (Kd.R_elder' (by (with_reducible repeat (first | apply Kd.R_alloc | apply Kd.R_drewN | apply Kd.R_drew)); exact HO320.out) (Kd.R_base ho8) hb); have n1_ := Aside0.mk (Kd.R_lower (Kd.R_new' ho8 (Kd.R_lt (by (with_reducible repeat (first | apply Kd.R_alloc | apply Kd.R_drewN | apply Kd.R_drew)); exact HO320.out))) (below_size (by repeat (first | (with_reducible first | exact HB.out | apply below_alloc | apply pw_below_drewN | apply below_drew1) | exact HB.out)))); have n2_ := Aside0.mk (below_step (by repeat (first | (with_reducible first | exact HB.out | apply below_alloc | apply pw_below_drewN | apply below_drew1) | exact HB.out)) hb); clear HO320; clear HB; have HO320 := n0_; have HO323 := n1_; have HB := n2_; clear n0_ n1_ n2_; clear hb ho8; obtain ⟨Ao9, co9, eo9⟩ := Kd.R_slice HO323.out; subst eo9) | ((with_reducible refine gate_dst (N := 10) rfl ?_); (try (refine gate_guard (by rfl) ?_; dsimp only)); refine Kd.N_lit k49 _ 49 ?hg (N' := 10) ?hd (xs := ([(⟨1, 9, 9, y318⟩ : S49), (⟨4, 9, 9, y321⟩ : S49)] : List (S49))) (inner := [.int .i64 1, .int .i64 9, .int .i64 9, .slice Ao6 y318.length co6, .int .i64 4, .int .i64 9, .int .i64 9, .slice Ao9 y321.length co9]) (ok := (fun _ => True)) (okp := (fun _ => True)) ?hr ?hp (fun _ hk => hk) ((show ∀ k_, w7.heap.size ≤ k_ → (fun _ => True) k_ from fun k_ hk => trivial) _ (Nat.le_refl _)) (Below.refl _ _) (Nat.le_refl _) (by simp) ?_; (case hd => rfl); (case hg => rfl); (case hr => first | (go_simp; done) | (go_simp; rfl)); (case hp => exact (Reps.c4 (show Kd.FK k49 _ _ (⟨1, 9, 9, y318⟩ : S49) [.int .i64 1, .int .i64 9, .int .i64 9, .slice Ao6 y318.length co6] from (k49_mkF _ _ (⟨1, 9, 9, y318⟩ : S49) (Kd.R_reads' (Kd.R_mono (ok' := (fun _ => True)) (HO320.out) (fun k_ hk => trivial))).2.1 (Kd.R_F (Kd.R_mono (ok' := (fun _ => True)) (HO320.out) (fun k_ hk => trivial))))) (Reps.c4 (show Kd.FK k49 _ _ (⟨4, 9, 9, y321⟩ : S49) [.int .i64 4, .int .i64 9, .int .i64 9, .slice Ao9 y321.length co9] from (k49_mkF _ _ (⟨4, 9, 9, y321⟩ : S49) (Kd.R_reads' (Kd.R_mono (ok' := (fun _ => True)) (HO323.out) (fun k_ hk => trivial))).2.1 (Kd.R_F (Kd.R_mono (ok' := (fun _ => True)) (HO323.out) (fun k_ hk => trivial))))) (Reps.none _ _)))); intro v325 w10 ho11 hb hg_ hnew_; clear hg_ hnew_; (first | rw [← Ny324.out] at ho11 | (simp only [Int.reduceToNat] at ho11; rw [← Ny324.out] at ho11)); have n0_ := Aside0.mk (Kd.N_lower ho11 (below_size (by repeat (first | (with_reducible first | exact HB.out | apply below_alloc | apply pw_below_drewN | apply below_drew1) | exact HB.out)))); have n1_ := Aside0.mk (below_step (by repeat (first | (with_reducible first | exact HB.out | apply below_alloc | apply pw_below_drewN | apply below_drew1) | exact HB.out)) hb); clear HB; clear HO320; clear HO323; have HO326 := n0_; have HB := n1_; clear n0_ n1_; clear hb ho11) | ((with_reducible refine gate_dst (N := 13) rfl ?_); (try (refine gate_guard (by rfl) ?_; dsimp only)); refine Kd.R_lit (Kd.int .i64) _ 3 ?hg (N := 13) ?hd (xs := ([2] : List Int)) (inner := [.int .i64 2]) (ok := fun _ => True) (okp := fun _ => True) ?hr ?hp (fun _ hk => hk) trivial (Below.refl _ _) (Nat.le_refl _) (by simp) ?_; (case hd => rfl); (case hg => rfl); (case hr => first | (go_simp; done) | (go_simp; rfl)); (case hp => exact (Reps.one (show Kd.M (Kd.int .i64) _ _ _ 2 [.int .i64 2] from rfl) (Reps.none _ _))); intro v328 w12 ho13 hb hg_ hnew_; clear hg_ hnew_; (first | rw [← Ny327.out] at ho13 | (simp only [Int.reduceToNat] at ho13; rw [← Ny327.out] at ho13)); have n0_ := Aside0.mk (Kd.N_elder' (by (with_reducible repeat (first | apply Kd.N_alloc | apply Kd.N_drewN | apply Kd.N_drew)); exact HO326.out) (Kd.R_base ho13) hb); have n1_ := Aside0.mk (Kd.R_lower ho13 (below_size (by repeat (first | (with_reducible first | exact HB.out | apply below_alloc | apply pw_below_drewN | apply below_drew1) | exact HB.out)))); have n2_ := Aside0.mk (below_step (by repeat (first | (with_reducible first | exact HB.out | apply below_alloc | apply pw_below_drewN | apply below_drew1) | exact HB.out)) hb); clear HO326; clear HB; have HO326 := n0_; have HO329 := n1_; have HB := n2_; clear n0_ n1_ n2_; clear hb ho13) | ((with_reducible refine gate_dst (N := 14) rfl ?_); (try (refine gate_guard (by rfl) ?_; dsimp only)); refine Kd.R_lit (Kd.int .i64) _ 3 ?hg (N := 14) ?hd (xs := ([0] : List Int)) (inner := [.int .i64 0]) (ok := fun _ => True) (okp := fun _ => True) ?hr ?hp (fun _ hk => hk) trivial (Below.refl _ _) (Nat.le_refl _) (by simp) ?_; (case hd => rfl); (case hg => rfl); (case hr => first | (go_simp; done) | (go_simp; rfl)); (case hp => exact (Reps.one (show Kd.M (Kd.int .i64) _ _ _ 0 [.int .i64 0] from rfl) (Reps.none _ _))); intro v331 w14 ho15 hb hg_ hnew_; clear hg_ hnew_; (first | rw [← Ny330.out] at ho15 | (simp only [Int.reduceToNat] at ho15; rw [← Ny330.out] at ho15)); have n0_ := Aside0.mk (Kd.N_elder' (by (with_reducible repeat (first | apply Kd.N_alloc | apply Kd.N_drewN | apply Kd.N_drew)); exact HO326.out) (Kd.R_base ho15) hb); have n1_ := Aside0.mk (Kd.R_elder' (by (with_reducible repeat (first | apply Kd.R_alloc | apply Kd.R_drewN | apply Kd.R_drew)); exact HO329.out) (Kd.R_base ho15) hb); have n2_ := Aside0.mk (Kd.R_lower (Kd.R_new' ho15 (Kd.R_lt (by (with_reducible repeat (first | apply Kd.R_alloc | apply Kd.R_drewN | apply Kd.R_drew)); exact HO329.out))) (below_size (by repeat (first | (with_reducible first | exact HB.out | apply below_alloc | apply pw_below_drewN | apply below_drew1) | exact HB.out)))); have n3_ := Aside0.mk (below_step (by repeat (first | (with_reducible first | exact HB.out | apply below_alloc | apply pw_below_drewN | apply below_drew1) | exact HB.out)) hb); clear HO326; clear HO329; clear HB; have HO326 := n0_; have HO329 := n1_; have HO332 := n2_; have HB := n3_; clear n0_ n1_ n2_ n3_; clear hb ho15; obtain ⟨Ao16, co16, eo16⟩ := Kd.R_slice HO329.out; subst eo16; obtain ⟨Ao17, co17, eo17⟩ := Kd.R_slice HO332.out; subst eo17) | ((with_reducible refine gate_dst (N := 15) rfl ?_); (try (refine gate_guard (by rfl) ?_; dsimp only)); refine Kd.N_lit (Kd.slice 3 (Kd.int .i64)) _ 38 ?hg (N' := 15) ?hd (xs := ([y327, y330] : List (List Int))) (inner := [.slice Ao16 y327.length co16, .slice Ao17 y330.length co17]) (ok := (fun k_ => some k_ ≠ (v325 : Value).ownBlock)) (okp := (fun k_ => some k_ ≠ (v325 : Value).ownBlock)) ?hr ?hp (fun _ hk => hk) ((show ∀ k_, w14.heap.size ≤ k_ → (fun k_ => some k_ ≠ (v325 : Value).ownBlock) k_ from fun k_ hk => Kd.fresh' (Kd.N_lt (by (with_reducible repeat (first | apply Kd.N_alloc | apply Kd.N_drewN | apply Kd.N_drew)); exact HO326.out)) k_ hk) _ (Nat.le_refl _)) (Below.refl _ _) (Nat.le_refl _) (by simp) ?_; (case hd => rfl); (case hg => rfl); (case hr => first | (go_simp; done) | (go_simp; rfl)); (case hp => exact (Reps.one (show Kd.FK (Kd.slice 3 (Kd.int .i64)) _ _ y327 [.slice Ao16 y327.length co16] from (Kd.FK_slice_mk (Kd.R_reads' (Kd.R_mono (ok' := (fun k_ => some k_ ≠ (v325 : Value).ownBlock)) (Kd.R_apart' (HO329.out) (Kd.N_typed HO326.out) (by decide)) (fun k_ hk => hk.2))).2.1 (Kd.R_F (Kd.R_mono (ok' := (fun k_ => some k_ ≠ (v325 : Value).ownBlock)) (Kd.R_apart' (HO329.out) (Kd.N_typed HO326.out) (by decide)) (fun k_ hk => hk.2))))) (Reps.one (show Kd.FK (Kd.slice 3 (Kd.int .i64)) _ _ y330 [.slice Ao17 y330.length co17] from (Kd.FK_slice_mk (Kd.R_reads' (Kd.R_mono (ok' := (fun k_ => some k_ ≠ (v325 : Value).ownBlock)) (Kd.R_apart' (HO332.out) (Kd.N_typed HO326.out) (by decide)) (fun k_ hk => hk.2))).2.1 (Kd.R_F (Kd.R_mono (ok' := (fun k_ => some k_ ≠ (v325 : Value).ownBlock)) (Kd.R_apart' (HO332.out) (Kd.N_typed HO326.out) (by decide)) (fun k_ hk => hk.2))))) (Reps.none _ _)))); intro v334 w18 ho19 hb hg_ hnew_; clear hg_ hnew_; (first | rw [← Ny333.out] at ho19 | (simp only [Int.reduceToNat] at ho19; rw [← Ny333.out] at ho19)); have n0_ := Aside0.mk (Kd.N_elder' (by (with_reducible repeat (first | apply Kd.N_alloc | apply Kd.N_drewN | apply Kd.N_drew)); exact HO326.out) (Kd.N_base ho19) hb); have n1_ := Aside0.mk (Kd.N_lower ho19 (below_size (by repeat (first | (with_reducible first | exact HB.out | apply below_alloc | apply pw_below_drewN | apply below_drew1) | exact HB.out)))); have n2_ := Aside0.mk (below_step (by repeat (first | (with_reducible first | exact HB.out | apply below_alloc | apply pw_below_drewN | apply below_drew1) | exact HB.out)) hb); clear HO326; clear HB; clear HO329; clear HO332; have HO326 := n0_; have HO335 := n1_; have HB := n2_; clear n0_ n1_ n2_; clear hb ho19; obtain ⟨Ao20, co20, eo20⟩ := Kd.N_slice HO326.out; subst eo20; obtain ⟨Ao21, co21, eo21⟩ := Kd.N_slice HO335.out; subst eo21) | ((with_reducible refine gate_callee (f := 21) rfl ?_); refine goesL_ (some 16) rfl rfl Try.func21 (by kernel_rfl) rfl #[.slice Ao20 y324.length co20, .slice Ao21 y333.length co21, .int .i64 9] rfl (by (try simp only [List.map_toArray, List.map_cons, List.map_nil]); first | done | rfl | (simp only [List.length_drop, List.length_take]; rfl)) ?_; (with_reducible refine (ceiling_Simulate.calls k _ _ y324 _ _ y333 9 t336 t337 _ ?side1 ?side2 ?side3 ?side4 A1.out).mono ?_); (case side1 => repeat (first | exact (Kd.N_reads' HO326.out).2.2 | (with_reducible refine Kd.C_alloc ?_ _) | (with_reducible refine Kd.C_drewN ?_ _) | (with_reducible refine Kd.C_drew ?_))); (case side2 => exact (Kd.N_reads' HO326.out).2.1); (case side3 => repeat (first | exact (Kd.N_reads' HO335.out).2.2 | (with_reducible refine Kd.C_alloc ?_ _) | (with_reducible refine Kd.C_drewN ?_ _) | (with_reducible refine Kd.C_drew ?_))); (case side4 => exact (Kd.N_reads' HO335.out).2.1); rintro e w22 ⟨v338, rfl, ho0, hb⟩; refine ⟨_, rfl, ?_⟩; have n0_ := Aside0.mk (Kd.N_elder' (by (with_reducible repeat (first | apply Kd.N_alloc | apply Kd.N_drewN | apply Kd.N_drew)); exact HO326.out) (Kd.R_base ho0) hb); have n1_ := Aside0.mk (Kd.N_elder' (by (with_reducible repeat (first | apply Kd.N_alloc | apply Kd.N_drewN | apply Kd.N_drew)); exact HO335.out) (Kd.R_base ho0) hb); have n2_ := Aside0.mk (Kd.R_lower ho0 (below_size (by repeat (first | (with_reducible first | exact HB.out | apply below_alloc | apply pw_below_drewN | apply below_drew1) | exact HB.out)))); have n3_ := Aside0.mk (below_step (by repeat (first | (with_reducible first | exact HB.out | apply below_alloc | apply pw_below_drewN | apply below_drew1) | exact HB.out)) hb); clear HO326; clear HO335; clear HB; have HO326 := n0_; have HO335 := n1_; have HO339 := n2_; have HB := n3_; clear n0_ n1_ n2_ n3_; (try clear hb); (try clear hb2); (try clear hk); (try clear hi); (try clear ho0)) | ((with_reducible refine gate_dst (N := 25) rfl ?_); (try (refine gate_guard (by rfl) ?_; dsimp only)); refine Kd.R_lit k34 _ 34 ?hg (N := 25) ?hd (xs := ([(⟨0, 2, 3, 4, 1⟩ : S34), (⟨1, 0, 0, 5, 0⟩ : S34)] : List (S34))) (inner := [.int .i64 0, .int .i64 2, .int .i64 3, .int .i64 4, .int .i64 1, .int .i64 1, .int .i64 0, .int .i64 0, .int .i64 5, .int .i64 0]) (ok := fun _ => True) (okp := fun _ => True) ?hr ?hp (fun _ hk => hk) trivial (Below.refl _ _) (Nat.le_refl _) (by simp) ?_; (case hd => rfl); (case hg => rfl); (case hr => first | (go_simp; done) | (go_simp; rfl)); (case hp => exact (Reps.c5 (show Kd.M k34 _ _ _ (⟨0, 2, 3, 4, 1⟩ : S34) [.int .i64 0, .int .i64 2, .int .i64 3, .int .i64 4, .int .i64 1] from (k34_mkM _ _ _ (⟨0, 2, 3, 4, 1⟩ : S34) )) (Reps.c5 (show Kd.M k34 _ _ _ (⟨1, 0, 0, 5, 0⟩ : S34) [.int .i64 1, .int .i64 0, .int .i64 0, .int .i64 5, .int .i64 0] from (k34_mkM _ _ _ (⟨1, 0, 0, 5, 0⟩ : S34) )) (Reps.none _ _)))); intro v341 w23 ho24 hb hg_ hnew_; clear hg_ hnew_; (first | rw [← Ny340.out] at ho24 | (simp only [Int.reduceToNat] at ho24; rw [← Ny340.out] at ho24)); have n0_ := Aside0.mk (Kd.N_elder' (by (with_reducible repeat (first | apply Kd.N_alloc | apply Kd.N_drewN | apply Kd.N_drew)); exact HO326.out) (Kd.R_base ho24) hb); have n1_ := Aside0.mk (Kd.N_elder' (by (with_reducible repeat (first | apply Kd.N_alloc | apply Kd.N_drewN | apply Kd.N_drew)); exact HO335.out) (Kd.R_base ho24) hb); have n2_ := Aside0.mk (Kd.R_elder' (by (with_reducible repeat (first | apply Kd.R_alloc | apply Kd.R_drewN | apply Kd.R_drew)); exact HO339.out) (Kd.R_base ho24) hb); have n3_ := Aside0.mk (Kd.R_lower (Kd.R_new' ho24 (Kd.R_lt (by (with_reducible repeat (first | apply Kd.R_alloc | apply Kd.R_drewN | apply Kd.R_drew)); exact HO339.out))) (below_size (by repeat (first | (with_reducible first | exact HB.out | apply below_alloc | apply pw_below_drewN | apply below_drew1) | exact HB.out)))); have n4_ := Aside0.mk (below_step (by repeat (first | (with_reducible first | exact HB.out | apply below_alloc | apply pw_below_drewN | apply below_drew1) | exact HB.out)) hb); clear HO326; clear HO335; clear HO339; clear HB; have HO326 := n0_; have HO335 := n1_; have HO339 := n2_; have HO342 := n3_; have HB := n4_; clear n0_ n1_ n2_ n3_ n4_; clear hb ho24; obtain ⟨Ao25, co25, eo25⟩ := Kd.R_slice HO339.out; subst eo25; obtain ⟨Ao26, co26, eo26⟩ := Kd.R_slice HO342.out; subst eo26) | (go_at_call 38; (with_reducible refine (ceiling_Job.calls k _ _ t336 _ _ y340 t343 _ ?side1 ?side2 ?side3 ?side4 A3.out).mono ?_); (case side1 => repeat (first | exact (Kd.R_reads' HO339.out).2.2 | (with_reducible refine Kd.C_alloc ?_ _) | (with_reducible refine Kd.C_drewN ?_ _) | (with_reducible refine Kd.C_drew ?_))); (case side2 => exact (Kd.R_reads' HO339.out).2.1); (case side3 => repeat (first | exact (Kd.R_reads' HO342.out).2.2 | (with_reducible refine Kd.C_alloc ?_ _) | (with_reducible refine Kd.C_drewN ?_ _) | (with_reducible refine Kd.C_drew ?_))); (case side4 => exact (Kd.R_reads' HO342.out).2.1); rintro e w' ⟨rfl, ⟨nd, rfl⟩⟩))
    go_ret
    exact ⟨by first | rfl | (simp [errW_none, errW_some] <;> rfl) | (simp [*, errW_none, errW_some] <;> rfl), by repeat (first | (with_reducible first | exact HB.out | apply below_alloc | apply pw_below_drewN | apply below_drew1) | exact HB.out)⟩
  · rw [if_neg c2] at H
    have c2b0 : (t337 == 0) = false := beq_eq_false_iff_ne.mpr c2
    have c2b1 : (t337 != 0) = true := bne_iff_ne.mpr c2
    obtain rfl := Option.some.inj H
    go_enter Try.func32, Try.ntmps32
    go_wp2_with (first | ((with_reducible refine gate_dst (N := 5) rfl ?_); (try (refine gate_guard (by rfl) ?_; dsimp only)); refine Kd.R_lit k68 _ 68 ?hg (N := 5) ?hd (xs := ([(⟨5, 0, 1⟩ : S68)] : List (S68))) (inner := [.int .i64 5, .int .i64 0, .int .i64 1]) (ok := fun _ => True) (okp := fun _ => True) ?hr ?hp (fun _ hk => hk) trivial (Below.refl _ _) (Nat.le_refl _) (by simp) ?_; (case hd => rfl); (case hg => rfl); (case hr => first | (go_simp; done) | (go_simp; rfl)); (case hp => exact (Reps.c3 (show Kd.M k68 _ _ _ (⟨5, 0, 1⟩ : S68) [.int .i64 5, .int .i64 0, .int .i64 1] from (k68_mkM _ _ _ (⟨5, 0, 1⟩ : S68) )) (Reps.none _ _))); intro v319 w27 ho28 hb hg_ hnew_; clear hg_ hnew_; (first | rw [← Ny318.out] at ho28 | (simp only [Int.reduceToNat] at ho28; rw [← Ny318.out] at ho28)); have n0_ := Aside0.mk (Kd.R_lower ho28 (below_size (by repeat (first | (with_reducible first | exact HB.out | apply below_alloc | apply pw_below_drewN | apply below_drew1) | exact HB.out)))); have n1_ := Aside0.mk (below_step (by repeat (first | (with_reducible first | exact HB.out | apply below_alloc | apply pw_below_drewN | apply below_drew1) | exact HB.out)) hb); clear HB; have HO320 := n0_; have HB := n1_; clear n0_ n1_; clear hb ho28; obtain ⟨Ao29, co29, eo29⟩ := Kd.R_slice HO320.out; subst eo29) | ((with_reducible refine gate_dst (N := 8) rfl ?_); (try (refine gate_guard (by rfl) ?_; dsimp only)); refine Kd.R_lit k68 _ 68 ?hg (N := 8) ?hd (xs := ([(⟨5, 1, 3⟩ : S68)] : List (S68))) (inner := [.int .i64 5, .int .i64 1, .int .i64 3]) (ok := fun _ => True) (okp := fun _ => True) ?hr ?hp (fun _ hk => hk) trivial (Below.refl _ _) (Nat.le_refl _) (by simp) ?_; (case hd => rfl); (case hg => rfl); (case hr => first | (go_simp; done) | (go_simp; rfl)); (case hp => exact (Reps.c3 (show Kd.M k68 _ _ _ (⟨5, 1, 3⟩ : S68) [.int .i64 5, .int .i64 1, .int .i64 3] from (k68_mkM _ _ _ (⟨5, 1, 3⟩ : S68) )) (Reps.none _ _))); intro v322 w30 ho31 hb hg_ hnew_; clear hg_ hnew_; (first | rw [← Ny321.out] at ho31 | (simp only [Int.reduceToNat] at ho31; rw [← Ny321.out] at ho31)); have n0_ := Aside0.mk (Kd.R_elder' (by (with_reducible repeat (first | apply Kd.R_alloc | apply Kd.R_drewN | apply Kd.R_drew)); exact HO320.out) (Kd.R_base ho31) hb); have n1_ := Aside0.mk (Kd.R_lower (Kd.R_new' ho31 (Kd.R_lt (by (with_reducible repeat (first | apply Kd.R_alloc | apply Kd.R_drewN | apply Kd.R_drew)); exact HO320.out))) (below_size (by repeat (first | (with_reducible first | exact HB.out | apply below_alloc | apply pw_below_drewN | apply below_drew1) | exact HB.out)))); have n2_ := Aside0.mk (below_step (by repeat (first | (with_reducible first | exact HB.out | apply below_alloc | apply pw_below_drewN | apply below_drew1) | exact HB.out)) hb); clear HO320; clear HB; have HO320 := n0_; have HO323 := n1_; have HB := n2_; clear n0_ n1_ n2_; clear hb ho31; obtain ⟨Ao32, co32, eo32⟩ := Kd.R_slice HO323.out; subst eo32) | ((with_reducible refine gate_dst (N := 10) rfl ?_); (try (refine gate_guard (by rfl) ?_; dsimp only)); refine Kd.N_lit k49 _ 49 ?hg (N' := 10) ?hd (xs := ([(⟨1, 9, 9, y318⟩ : S49), (⟨4, 9, 9, y321⟩ : S49)] : List (S49))) (inner := [.int .i64 1, .int .i64 9, .int .i64 9, .slice Ao29 y318.length co29, .int .i64 4, .int .i64 9, .int .i64 9, .slice Ao32 y321.length co32]) (ok := (fun _ => True)) (okp := (fun _ => True)) ?hr ?hp (fun _ hk => hk) ((show ∀ k_, w30.heap.size ≤ k_ → (fun _ => True) k_ from fun k_ hk => trivial) _ (Nat.le_refl _)) (Below.refl _ _) (Nat.le_refl _) (by simp) ?_; (case hd => rfl); (case hg => rfl); (case hr => first | (go_simp; done) | (go_simp; rfl)); (case hp => exact (Reps.c4 (show Kd.FK k49 _ _ (⟨1, 9, 9, y318⟩ : S49) [.int .i64 1, .int .i64 9, .int .i64 9, .slice Ao29 y318.length co29] from (k49_mkF _ _ (⟨1, 9, 9, y318⟩ : S49) (Kd.R_reads' (Kd.R_mono (ok' := (fun _ => True)) (HO320.out) (fun k_ hk => trivial))).2.1 (Kd.R_F (Kd.R_mono (ok' := (fun _ => True)) (HO320.out) (fun k_ hk => trivial))))) (Reps.c4 (show Kd.FK k49 _ _ (⟨4, 9, 9, y321⟩ : S49) [.int .i64 4, .int .i64 9, .int .i64 9, .slice Ao32 y321.length co32] from (k49_mkF _ _ (⟨4, 9, 9, y321⟩ : S49) (Kd.R_reads' (Kd.R_mono (ok' := (fun _ => True)) (HO323.out) (fun k_ hk => trivial))).2.1 (Kd.R_F (Kd.R_mono (ok' := (fun _ => True)) (HO323.out) (fun k_ hk => trivial))))) (Reps.none _ _)))); intro v325 w33 ho34 hb hg_ hnew_; clear hg_ hnew_; (first | rw [← Ny324.out] at ho34 | (simp only [Int.reduceToNat] at ho34; rw [← Ny324.out] at ho34)); have n0_ := Aside0.mk (Kd.N_lower ho34 (below_size (by repeat (first | (with_reducible first | exact HB.out | apply below_alloc | apply pw_below_drewN | apply below_drew1) | exact HB.out)))); have n1_ := Aside0.mk (below_step (by repeat (first | (with_reducible first | exact HB.out | apply below_alloc | apply pw_below_drewN | apply below_drew1) | exact HB.out)) hb); clear HB; clear HO320; clear HO323; have HO326 := n0_; have HB := n1_; clear n0_ n1_; clear hb ho34) | ((with_reducible refine gate_dst (N := 13) rfl ?_); (try (refine gate_guard (by rfl) ?_; dsimp only)); refine Kd.R_lit (Kd.int .i64) _ 3 ?hg (N := 13) ?hd (xs := ([2] : List Int)) (inner := [.int .i64 2]) (ok := fun _ => True) (okp := fun _ => True) ?hr ?hp (fun _ hk => hk) trivial (Below.refl _ _) (Nat.le_refl _) (by simp) ?_; (case hd => rfl); (case hg => rfl); (case hr => first | (go_simp; done) | (go_simp; rfl)); (case hp => exact (Reps.one (show Kd.M (Kd.int .i64) _ _ _ 2 [.int .i64 2] from rfl) (Reps.none _ _))); intro v328 w35 ho36 hb hg_ hnew_; clear hg_ hnew_; (first | rw [← Ny327.out] at ho36 | (simp only [Int.reduceToNat] at ho36; rw [← Ny327.out] at ho36)); have n0_ := Aside0.mk (Kd.N_elder' (by (with_reducible repeat (first | apply Kd.N_alloc | apply Kd.N_drewN | apply Kd.N_drew)); exact HO326.out) (Kd.R_base ho36) hb); have n1_ := Aside0.mk (Kd.R_lower ho36 (below_size (by repeat (first | (with_reducible first | exact HB.out | apply below_alloc | apply pw_below_drewN | apply below_drew1) | exact HB.out)))); have n2_ := Aside0.mk (below_step (by repeat (first | (with_reducible first | exact HB.out | apply below_alloc | apply pw_below_drewN | apply below_drew1) | exact HB.out)) hb); clear HO326; clear HB; have HO326 := n0_; have HO329 := n1_; have HB := n2_; clear n0_ n1_ n2_; clear hb ho36) | ((with_reducible refine gate_dst (N := 14) rfl ?_); (try (refine gate_guard (by rfl) ?_; dsimp only)); refine Kd.R_lit (Kd.int .i64) _ 3 ?hg (N := 14) ?hd (xs := ([0] : List Int)) (inner := [.int .i64 0]) (ok := fun _ => True) (okp := fun _ => True) ?hr ?hp (fun _ hk => hk) trivial (Below.refl _ _) (Nat.le_refl _) (by simp) ?_; (case hd => rfl); (case hg => rfl); (case hr => first | (go_simp; done) | (go_simp; rfl)); (case hp => exact (Reps.one (show Kd.M (Kd.int .i64) _ _ _ 0 [.int .i64 0] from rfl) (Reps.none _ _))); intro v331 w37 ho38 hb hg_ hnew_; clear hg_ hnew_; (first | rw [← Ny330.out] at ho38 | (simp only [Int.reduceToNat] at ho38; rw [← Ny330.out] at ho38)); have n0_ := Aside0.mk (Kd.N_elder' (by (with_reducible repeat (first | apply Kd.N_alloc | apply Kd.N_drewN | apply Kd.N_drew)); exact HO326.out) (Kd.R_base ho38) hb); have n1_ := Aside0.mk (Kd.R_elder' (by (with_reducible repeat (first | apply Kd.R_alloc | apply Kd.R_drewN | apply Kd.R_drew)); exact HO329.out) (Kd.R_base ho38) hb); have n2_ := Aside0.mk (Kd.R_lower (Kd.R_new' ho38 (Kd.R_lt (by (with_reducible repeat (first | apply Kd.R_alloc | apply Kd.R_drewN | apply Kd.R_drew)); exact HO329.out))) (below_size (by repeat (first | (with_reducible first | exact HB.out | apply below_alloc | apply pw_below_drewN | apply below_drew1) | exact HB.out)))); have n3_ := Aside0.mk (below_step (by repeat (first | (with_reducible first | exact HB.out | apply below_alloc | apply pw_below_drewN | apply below_drew1) | exact HB.out)) hb); clear HO326; clear HO329; clear HB; have HO326 := n0_; have HO329 := n1_; have HO332 := n2_; have HB := n3_; clear n0_ n1_ n2_ n3_; clear hb ho38; obtain ⟨Ao39, co39, eo39⟩ := Kd.R_slice HO329.out; subst eo39; obtain ⟨Ao40, co40, eo40⟩ := Kd.R_slice HO332.out; subst eo40) | ((with_reducible refine gate_dst (N := 15) rfl ?_); (try (refine gate_guard (by rfl) ?_; dsimp only)); refine Kd.N_lit (Kd.slice 3 (Kd.int .i64)) _ 38 ?hg (N' := 15) ?hd (xs := ([y327, y330] : List (List Int))) (inner := [.slice Ao39 y327.length co39, .slice Ao40 y330.length co40]) (ok := (fun k_ => some k_ ≠ (v325 : Value).ownBlock)) (okp := (fun k_ => some k_ ≠ (v325 : Value).ownBlock)) ?hr ?hp (fun _ hk => hk) ((show ∀ k_, w37.heap.size ≤ k_ → (fun k_ => some k_ ≠ (v325 : Value).ownBlock) k_ from fun k_ hk => Kd.fresh' (Kd.N_lt (by (with_reducible repeat (first | apply Kd.N_alloc | apply Kd.N_drewN | apply Kd.N_drew)); exact HO326.out)) k_ hk) _ (Nat.le_refl _)) (Below.refl _ _) (Nat.le_refl _) (by simp) ?_; (case hd => rfl); (case hg => rfl); (case hr => first | (go_simp; done) | (go_simp; rfl)); (case hp => exact (Reps.one (show Kd.FK (Kd.slice 3 (Kd.int .i64)) _ _ y327 [.slice Ao39 y327.length co39] from (Kd.FK_slice_mk (Kd.R_reads' (Kd.R_mono (ok' := (fun k_ => some k_ ≠ (v325 : Value).ownBlock)) (Kd.R_apart' (HO329.out) (Kd.N_typed HO326.out) (by decide)) (fun k_ hk => hk.2))).2.1 (Kd.R_F (Kd.R_mono (ok' := (fun k_ => some k_ ≠ (v325 : Value).ownBlock)) (Kd.R_apart' (HO329.out) (Kd.N_typed HO326.out) (by decide)) (fun k_ hk => hk.2))))) (Reps.one (show Kd.FK (Kd.slice 3 (Kd.int .i64)) _ _ y330 [.slice Ao40 y330.length co40] from (Kd.FK_slice_mk (Kd.R_reads' (Kd.R_mono (ok' := (fun k_ => some k_ ≠ (v325 : Value).ownBlock)) (Kd.R_apart' (HO332.out) (Kd.N_typed HO326.out) (by decide)) (fun k_ hk => hk.2))).2.1 (Kd.R_F (Kd.R_mono (ok' := (fun k_ => some k_ ≠ (v325 : Value).ownBlock)) (Kd.R_apart' (HO332.out) (Kd.N_typed HO326.out) (by decide)) (fun k_ hk => hk.2))))) (Reps.none _ _)))); intro v334 w41 ho42 hb hg_ hnew_; clear hg_ hnew_; (first | rw [← Ny333.out] at ho42 | (simp only [Int.reduceToNat] at ho42; rw [← Ny333.out] at ho42)); have n0_ := Aside0.mk (Kd.N_elder' (by (with_reducible repeat (first | apply Kd.N_alloc | apply Kd.N_drewN | apply Kd.N_drew)); exact HO326.out) (Kd.N_base ho42) hb); have n1_ := Aside0.mk (Kd.N_lower ho42 (below_size (by repeat (first | (with_reducible first | exact HB.out | apply below_alloc | apply pw_below_drewN | apply below_drew1) | exact HB.out)))); have n2_ := Aside0.mk (below_step (by repeat (first | (with_reducible first | exact HB.out | apply below_alloc | apply pw_below_drewN | apply below_drew1) | exact HB.out)) hb); clear HO326; clear HB; clear HO329; clear HO332; have HO326 := n0_; have HO335 := n1_; have HB := n2_; clear n0_ n1_ n2_; clear hb ho42; obtain ⟨Ao43, co43, eo43⟩ := Kd.N_slice HO326.out; subst eo43; obtain ⟨Ao44, co44, eo44⟩ := Kd.N_slice HO335.out; subst eo44) | ((with_reducible refine gate_callee (f := 21) rfl ?_); refine goesL_ (some 16) rfl rfl Try.func21 (by kernel_rfl) rfl #[.slice Ao43 y324.length co43, .slice Ao44 y333.length co44, .int .i64 9] rfl (by (try simp only [List.map_toArray, List.map_cons, List.map_nil]); first | done | rfl | (simp only [List.length_drop, List.length_take]; rfl)) ?_; (with_reducible refine (ceiling_Simulate.calls k _ _ y324 _ _ y333 9 t336 t337 _ ?side1 ?side2 ?side3 ?side4 A1.out).mono ?_); (case side1 => repeat (first | exact (Kd.N_reads' HO326.out).2.2 | (with_reducible refine Kd.C_alloc ?_ _) | (with_reducible refine Kd.C_drewN ?_ _) | (with_reducible refine Kd.C_drew ?_))); (case side2 => exact (Kd.N_reads' HO326.out).2.1); (case side3 => repeat (first | exact (Kd.N_reads' HO335.out).2.2 | (with_reducible refine Kd.C_alloc ?_ _) | (with_reducible refine Kd.C_drewN ?_ _) | (with_reducible refine Kd.C_drew ?_))); (case side4 => exact (Kd.N_reads' HO335.out).2.1); rintro e w45 ⟨v338, rfl, ho0, hb⟩; refine ⟨_, rfl, ?_⟩; have n0_ := Aside0.mk (Kd.N_elder' (by (with_reducible repeat (first | apply Kd.N_alloc | apply Kd.N_drewN | apply Kd.N_drew)); exact HO326.out) (Kd.R_base ho0) hb); have n1_ := Aside0.mk (Kd.N_elder' (by (with_reducible repeat (first | apply Kd.N_alloc | apply Kd.N_drewN | apply Kd.N_drew)); exact HO335.out) (Kd.R_base ho0) hb); have n2_ := Aside0.mk (Kd.R_lower ho0 (below_size (by repeat (first | (with_reducible first | exact HB.out | apply below_alloc | apply pw_below_drewN | apply below_drew1) | exact HB.out)))); have n3_ := Aside0.mk (below_step (by repeat (first | (with_reducible first | exact HB.out | apply below_alloc | apply pw_below_drewN | apply below_drew1) | exact HB.out)) hb); clear HO326; clear HO335; clear HB; have HO326 := n0_; have HO335 := n1_; have HO339 := n2_; have HB := n3_; clear n0_ n1_ n2_ n3_; (try clear hb); (try clear hb2); (try clear hk); (try clear hi); (try clear ho0)))
    go_ret
    exact ⟨by first | rfl | (simp [errW_none, errW_some] <;> rfl) | (simp [*, errW_none, errW_some] <;> rfl), by repeat (first | (with_reducible first | exact HB.out | apply below_alloc | apply pw_below_drewN | apply below_drew1) | exact HB.out)⟩

/-! ### ontimelaw43_plain: function 35 -/
mutual
def ontimelaw43_plain.l0 : Nat → List (S93) → List (S49) → Int → Int → Option ((List (S93)))
  | 0, _, _, _, _ => none
  | k + 1, x3, x9, x10, x11 => if x11 < x10 then (if 0 ≤ x11 then (if x11 < (x9.length : Int) then (ontimelaw43_plain.l1 k x3 x9 x10 x11 ((rd_T49 x9 x11).f3) (((rd_T49 x9 x11).f3).length : Int) 0 ((rd_T49 x9 x11).f0) ((rd_T49 x9 x11).f1) ((rd_T49 x9 x11).f2) ([] : List (S94))) else (none)) else (none)) else (some x3)
def ontimelaw43_plain.l1 : Nat → List (S93) → List (S49) → Int → Int → List (S68) → Int → Int → Int → Int → Int → List (S94) → Option ((List (S93)))
  | 0, _, _, _, _, _, _, _, _, _, _, _ => none
  | k + 1, x3, x9, x10, x11, x23, x24, x25, x347000, x347001, x347002, x347003 => if x25 < x24 then (if 0 ≤ x25 then (if x25 < (x23.length : Int) then (if x347003.length < 5864062014805 then (ontimelaw43_plain.l1 k x3 x9 x10 x11 x23 x24 (wrap64 (x25 + 1)) x347000 x347001 x347002 (x347003 ++ [(⟨(rd_T68 x23 x25).f0, (rd_T68 x23 x25).f1, (rd_T68 x23 x25).f2⟩ : S94)])) else (none)) else (none)) else (none)) else (if x3.length < 2932031007402 then (ontimelaw43_plain.l0 k (x3 ++ [(⟨x347000, x347001, x347002, x347003⟩ : S93)]) x9 x10 (wrap64 (x11 + 1))) else (none))
end
def ontimelaw43_plain.f (k : Nat) (l0 : List (S49)) : Option ((List (S93))) := ontimelaw43_plain.l0 k ([] : List (S93)) l0 (l0.length : Int) 0
theorem ontimelaw43_plain.mono_l : ∀ k, (∀ y0 y1 y2 y3, LeO (ontimelaw43_plain.l0 k y0 y1 y2 y3) (ontimelaw43_plain.l0 (k + 1) y0 y1 y2 y3)) ∧ (∀ y0 y1 y2 y3 y4 y5 y6 y7 y8 y9 y10, LeO (ontimelaw43_plain.l1 k y0 y1 y2 y3 y4 y5 y6 y7 y8 y9 y10) (ontimelaw43_plain.l1 (k + 1) y0 y1 y2 y3 y4 y5 y6 y7 y8 y9 y10))
  | 0 => ⟨fun _ _ _ _ r h => by simp [ontimelaw43_plain.l0] at h, fun _ _ _ _ _ _ _ _ _ _ _ r h => by simp [ontimelaw43_plain.l1] at h⟩
  | k + 1 => by
    obtain ⟨ih0, ih1⟩ := ontimelaw43_plain.mono_l k
    refine ⟨?_, ?_⟩
    · intro y0 y1 y2 y3
      unfold ontimelaw43_plain.l0
      repeat' first
      | (with_reducible exact ih0 _ _ _ _)
      | (with_reducible exact ih1 _ _ _ _ _ _ _ _ _ _ _)
      | (with_reducible exact LeO.refl _)
      | (with_reducible exact LeO.none _)
      | (with_reducible refine LeO.ite ?_ ?_)
      | (with_reducible refine LeO.bind ?_ (fun _ => ?_))
      | exact ih0 _ _ _ _
      | exact ih1 _ _ _ _ _ _ _ _ _ _ _
      | exact LeO.none _
      | refine LeO.ite ?_ ?_
      | refine LeO.bind ?_ (fun _ => ?_)
    · intro y0 y1 y2 y3 y4 y5 y6 y7 y8 y9 y10
      unfold ontimelaw43_plain.l1
      repeat' first
      | (with_reducible exact ih0 _ _ _ _)
      | (with_reducible exact ih1 _ _ _ _ _ _ _ _ _ _ _)
      | (with_reducible exact LeO.refl _)
      | (with_reducible exact LeO.none _)
      | (with_reducible refine LeO.ite ?_ ?_)
      | (with_reducible refine LeO.bind ?_ (fun _ => ?_))
      | exact ih0 _ _ _ _
      | exact ih1 _ _ _ _ _ _ _ _ _ _ _
      | exact LeO.none _
      | refine LeO.ite ?_ ?_
      | refine LeO.bind ?_ (fun _ => ?_)
theorem ontimelaw43_plain.mono : ∀ a0 k, LeO (ontimelaw43_plain.f k a0) (ontimelaw43_plain.f (k + 1) a0) := by
  intro a0 k
  obtain ⟨ih0, ih1⟩ := ontimelaw43_plain.mono_l k
  unfold ontimelaw43_plain.f
  repeat' first
      | (with_reducible exact ih0 _ _ _ _)
      | (with_reducible exact ih1 _ _ _ _ _ _ _ _ _ _ _)
      | (with_reducible exact LeO.refl _)
      | (with_reducible exact LeO.none _)
      | (with_reducible refine LeO.ite ?_ ?_)
      | (with_reducible refine LeO.bind ?_ (fun _ => ?_))
      | exact ih0 _ _ _ _
      | exact ih1 _ _ _ _ _ _ _ _ _ _ _
      | exact LeO.none _
      | refine LeO.ite ?_ ?_
      | refine LeO.bind ?_ (fun _ => ?_)
set_option maxHeartbeats 8000000 in
set_option maxRecDepth 100000 in
theorem ontimelaw43_plain.calls (k : Nat) (A0 : Option Addr) (c0 : Nat) (l0 : List (S49)) (r : List (S93)) (w : World) (hr0 : Kd.C k49 w A0 l0.length l0) (hc0 : l0.length ≤ c0) (h : ontimelaw43_plain.f k l0 = some r) :
    Calls Try.prog 35 #[.slice A0 l0.length c0] w fun e w' => ∃ v0_ : Value, e = .returned (v0_) ∧ Kd.S k93 93 w' w.heap.size (fun _ => True) v0_ r ∧ Below w.heap.size w w' := by
  have hu49 := Try.underlying49
  have hu93 := Try.underlying93
  have hu68 := Try.underlying68
  have hu94 := Try.underlying94
  have HR0 := Aside0.mk hr0
  have HC0 := Aside0.mk hc0
  clear hr0 hc0
  have HB := Aside0.mk (Below.refl w.heap.size w)
  have H : (ontimelaw43_plain.l0 k ([] : List (S93)) l0 (l0.length : Int) 0) = some r := h
  clear h
  have H' := Aside0.mk H
  clear H
  go_enter Try.func35, Try.ntmps35
  go_wp2
  go_loopg [3, 11] k (fun kq v3 v11 w' => ∃ (x3_1 : List (S93)) (x11_1 : Int), v11 = .int .i64 x11_1 ∧ Aside0 (ontimelaw43_plain.l0 kq x3_1 l0 (l0.length : Int) x11_1 = some r) ∧ Aside0 (kq ≤ k) ∧ Aside0 (Kd.S k93 93 w' w.heap.size (fun _ => True) v3 x3_1) ∧ Aside0 (Below w.heap.size w w'))
  case atStart => exact ⟨(([] : List (S93))), (0), (by first | rfl | (simp; done) | (simp [*]; done)), H', ⟨Nat.le_refl _⟩, ⟨by first | exact Kd.S_nil _ _ _ _ _ | exact Kd.N_nil _ _ _ _ _ | exact Kd.V_nil _ _ _ _ _ | exact Kd.Q_nil _ _ _ _ _ | exact Kd.R_nil _ _ _ _ _⟩, ⟨by repeat (first | (with_reducible first | exact HB.out | apply below_alloc | apply pw_below_drewN | apply below_drew1) | exact HB.out)⟩⟩
  case round =>
    clear H'
    obtain ⟨x3_1, x11_1, rfl, HA, HK1, HO_3, HB⟩ := hrel
    cases gk with
    | zero => exact absurd HA.out (by simp [ontimelaw43_plain.l0])
    | succ k1 =>
      have H := HA.out
      clear HA
      simp only [ontimelaw43_plain.l0] at H
      by_cases c2 : x11_1 < (l0.length : Int)
      · rw [if_pos c2] at H
        have c2b0 : decide (x11_1 < (l0.length : Int)) = true := decide_eq_true c2
        clear c2
        by_cases c3 : 0 ≤ x11_1
        · rw [if_pos c3] at H
          have c3b0 : decide (0 ≤ x11_1) = true := decide_eq_true c3
          clear c3
          by_cases c4 : x11_1 < (l0.length : Int)
          · rw [if_pos c4] at H
            have c4b0 : decide (x11_1 < (l0.length : Int)) = true := decide_eq_true c4
            clear c4
            have H' := Aside0.mk H
            clear H
            have p344 : 0 ≤ (x11_1 : Int) := of_decide_eq_true (by first | (with_reducible assumption) | assumption)
            have q344 : x11_1 < (l0.length : Int) := of_decide_eq_true (by first | (with_reducible assumption) | assumption)
            obtain ⟨ad344, A344_3, c344_3, e344, hx344_0, hx344_1, hx344_2, hx344_3, hl344_3, hi344_3⟩ := at_T49 HR0.out x11_1 p344 q344
            cases e344
            replace hx344_0 := (HB.out.cell (World.block_lt_of_cell? w _ hx344_0)).trans hx344_0
            replace hx344_1 := (HB.out.cell (World.block_lt_of_cell? w _ hx344_1)).trans hx344_1
            replace hx344_2 := (HB.out.cell (World.block_lt_of_cell? w _ hx344_2)).trans hx344_2
            replace hx344_3 := (HB.out.cell (World.block_lt_of_cell? w _ hx344_3)).trans hx344_3
            have HR344_3 := Aside0.mk hi344_3
            have HC344_3 := Aside0.mk hl344_3
            clear hi344_3 hl344_3
            replace p344 := eq_true p344
            replace q344 := eq_true q344
            go_wp2_with (first | ((with_reducible refine gate_dst (N := 5) rfl ?_); refine box_event ?hg (N := 5) ?hd (cs := #[.int .i64 0, .int .i64 0, .int .i64 0, .slice none 0 0]) (t := 49) ?hr ?_; (case hd => rfl); (case hg => rfl); (case hr => first | (go_simp; done) | (go_simp; rfl)); intro gb345 hg w5 hbox hb; have n0_ := Aside0.mk (Kd.S_below (by (with_reducible repeat (first | apply Kd.S_alloc | apply Kd.S_drewN | apply Kd.S_drew)); exact HO_3.out) hb); have n1_ := Aside0.mk (below_step (by repeat (first | (with_reducible first | exact HB.out | apply below_alloc | apply pw_below_drewN | apply below_drew1) | exact HB.out)) hb); have n2_ := Aside0.mk (hbox); have n3_ := Aside0.mk ((by rw [hg]; exact (below_size (by repeat (first | (with_reducible first | exact HB.out | apply below_alloc | apply pw_below_drewN | apply below_drew1) | exact HB.out))) : w.heap.size ≤ gb345)); have n4_ := Aside0.mk ((by rw [hg]; exact (below_size (by repeat (first | (with_reducible first | exact HB.out | apply below_alloc | apply pw_below_drewN | apply below_drew1) | exact HB.out))) : w.heap.size ≤ gb345)); clear HO_3; clear HB; have HO_3 := n0_; have HB := n1_; have BK345 := n2_; have GW345 := n3_; have GE345 := n4_; clear n0_ n1_ n2_ n3_ n4_; clear hb hbox hg; have hcz6_0 : w5.cell? ⟨gb345, 0, none⟩ = some (.int .i64 0) := (blk_cell BK345.out 0).trans rfl; have hcz6_1 : w5.cell? ⟨gb345, 1, none⟩ = some (.int .i64 0) := (blk_cell BK345.out 1).trans rfl; have hcz6_2 : w5.cell? ⟨gb345, 2, none⟩ = some (.int .i64 0) := (blk_cell BK345.out 2).trans rfl; have hcz6_3 : w5.cell? ⟨gb345, 3, none⟩ = some (.slice none 0 0) := (blk_cell BK345.out 3).trans rfl; have hfz6_0 := blk_frozen BK345.out 0; have hfz6_1 := blk_frozen BK345.out 1; have hfz6_2 := blk_frozen BK345.out 2; have hfz6_3 := blk_frozen BK345.out 3) | ((with_reducible refine gate_dst (N := 6) rfl ?_); refine box_event ?hg (N := 6) ?hd (cs := #[.int .i64 0, .int .i64 0, .int .i64 0, .slice none 0 0]) (t := 93) ?hr ?_; (case hd => rfl); (case hg => rfl); (case hr => first | (go_simp; done) | (go_simp; rfl)); intro gb346 hg w7 hbox hb; have n0_ := Aside0.mk (Kd.S_below (Kd.S_elderB (by (with_reducible repeat (first | apply Kd.S_alloc | apply Kd.S_drewN | apply Kd.S_drew)); exact (Kd.S_mono (Kd.S_far (p := ⟨gb345, 3, none⟩) (Kd.S_far (p := ⟨gb345, 2, none⟩) (Kd.S_far (p := ⟨gb345, 1, none⟩) (Kd.S_far (p := ⟨gb345, 0, none⟩) (Kd.S_types HO_3.out BK345.out (by decide)) (fun _ hk => hk.2) (.int .i64 ((rd_T49 l0 x11_1).f0))) (fun _ hk => hk.2) (.int .i64 ((rd_T49 l0 x11_1).f1))) (fun _ hk => hk.2) (.int .i64 ((rd_T49 l0 x11_1).f2))) (fun _ hk => hk.2) (.slice A344_3 ((rd_T49 l0 x11_1).f3).length c344_3)) (fun _ h_ => h_.1))) gb346 (Nat.le_of_eq hg.symm)) hb); have n1_ := Aside0.mk (blk_below (g := gb345) (o := .cells #[.int .i64 ((rd_T49 l0 x11_1).f0), .int .i64 ((rd_T49 l0 x11_1).f1), .int .i64 ((rd_T49 l0 x11_1).f2), .slice A344_3 ((rd_T49 l0 x11_1).f3).length c344_3] 49 (0, 0)) (by (with_reducible repeat (first | refine blk_drewN ?_ _ | refine blk_drew ?_ | refine blk_alloc ?_ _)); refine blk_put (cs := #[.int .i64 ((rd_T49 l0 x11_1).f0), .int .i64 ((rd_T49 l0 x11_1).f1), .int .i64 ((rd_T49 l0 x11_1).f2), .slice none 0 0]) ?_ 3 _ rfl; (with_reducible repeat (first | refine blk_drewN ?_ _ | refine blk_drew ?_ | refine blk_alloc ?_ _)); refine blk_put (cs := #[.int .i64 ((rd_T49 l0 x11_1).f0), .int .i64 ((rd_T49 l0 x11_1).f1), .int .i64 0, .slice none 0 0]) ?_ 2 _ rfl; (with_reducible repeat (first | refine blk_drewN ?_ _ | refine blk_drew ?_ | refine blk_alloc ?_ _)); refine blk_put (cs := #[.int .i64 ((rd_T49 l0 x11_1).f0), .int .i64 0, .int .i64 0, .slice none 0 0]) ?_ 1 _ rfl; (with_reducible repeat (first | refine blk_drewN ?_ _ | refine blk_drew ?_ | refine blk_alloc ?_ _)); refine blk_put (cs := #[.int .i64 0, .int .i64 0, .int .i64 0, .slice none 0 0]) ?_ 0 _ rfl; (with_reducible repeat (first | refine blk_drewN ?_ _ | refine blk_drew ?_ | refine blk_alloc ?_ _)); exact BK345.out) hb); have n2_ := Aside0.mk (below_step (by repeat (first | (with_reducible first | exact HB.out | apply below_alloc | apply pw_below_drewN | apply below_drew1 | refine below_set ?_ GE345.out) | exact HB.out)) hb); have n3_ := Aside0.mk (hbox); have n4_ := Aside0.mk ((by rw [hg]; exact (below_size (by repeat (first | (with_reducible first | exact HB.out | apply below_alloc | apply pw_below_drewN | apply below_drew1 | refine below_set ?_ GE345.out) | exact HB.out))) : w.heap.size ≤ gb346)); have n5_ := Aside0.mk ((by rw [hg]; exact (below_size (by repeat (first | (with_reducible first | exact HB.out | apply below_alloc | apply pw_below_drewN | apply below_drew1 | refine below_set ?_ GE345.out) | exact HB.out))) : w.heap.size ≤ gb346)); have n6_ := Aside0.mk ((by rw [hg]; exact Nat.ne_of_lt (blk_lt (g := gb345) (o := .cells #[.int .i64 ((rd_T49 l0 x11_1).f0), .int .i64 ((rd_T49 l0 x11_1).f1), .int .i64 ((rd_T49 l0 x11_1).f2), .slice A344_3 ((rd_T49 l0 x11_1).f3).length c344_3] 49 (0, 0)) (by (with_reducible repeat (first | refine blk_drewN ?_ _ | refine blk_drew ?_ | refine blk_alloc ?_ _)); refine blk_put (cs := #[.int .i64 ((rd_T49 l0 x11_1).f0), .int .i64 ((rd_T49 l0 x11_1).f1), .int .i64 ((rd_T49 l0 x11_1).f2), .slice none 0 0]) ?_ 3 _ rfl; (with_reducible repeat (first | refine blk_drewN ?_ _ | refine blk_drew ?_ | refine blk_alloc ?_ _)); refine blk_put (cs := #[.int .i64 ((rd_T49 l0 x11_1).f0), .int .i64 ((rd_T49 l0 x11_1).f1), .int .i64 0, .slice none 0 0]) ?_ 2 _ rfl; (with_reducible repeat (first | refine blk_drewN ?_ _ | refine blk_drew ?_ | refine blk_alloc ?_ _)); refine blk_put (cs := #[.int .i64 ((rd_T49 l0 x11_1).f0), .int .i64 0, .int .i64 0, .slice none 0 0]) ?_ 1 _ rfl; (with_reducible repeat (first | refine blk_drewN ?_ _ | refine blk_drew ?_ | refine blk_alloc ?_ _)); refine blk_put (cs := #[.int .i64 0, .int .i64 0, .int .i64 0, .slice none 0 0]) ?_ 0 _ rfl; (with_reducible repeat (first | refine blk_drewN ?_ _ | refine blk_drew ?_ | refine blk_alloc ?_ _)); exact BK345.out)) : gb345 ≠ gb346)); have n7_ := Aside0.mk ((by rw [hg]; exact Nat.ne_of_gt (blk_lt (g := gb345) (o := .cells #[.int .i64 ((rd_T49 l0 x11_1).f0), .int .i64 ((rd_T49 l0 x11_1).f1), .int .i64 ((rd_T49 l0 x11_1).f2), .slice A344_3 ((rd_T49 l0 x11_1).f3).length c344_3] 49 (0, 0)) (by (with_reducible repeat (first | refine blk_drewN ?_ _ | refine blk_drew ?_ | refine blk_alloc ?_ _)); refine blk_put (cs := #[.int .i64 ((rd_T49 l0 x11_1).f0), .int .i64 ((rd_T49 l0 x11_1).f1), .int .i64 ((rd_T49 l0 x11_1).f2), .slice none 0 0]) ?_ 3 _ rfl; (with_reducible repeat (first | refine blk_drewN ?_ _ | refine blk_drew ?_ | refine blk_alloc ?_ _)); refine blk_put (cs := #[.int .i64 ((rd_T49 l0 x11_1).f0), .int .i64 ((rd_T49 l0 x11_1).f1), .int .i64 0, .slice none 0 0]) ?_ 2 _ rfl; (with_reducible repeat (first | refine blk_drewN ?_ _ | refine blk_drew ?_ | refine blk_alloc ?_ _)); refine blk_put (cs := #[.int .i64 ((rd_T49 l0 x11_1).f0), .int .i64 0, .int .i64 0, .slice none 0 0]) ?_ 1 _ rfl; (with_reducible repeat (first | refine blk_drewN ?_ _ | refine blk_drew ?_ | refine blk_alloc ?_ _)); refine blk_put (cs := #[.int .i64 0, .int .i64 0, .int .i64 0, .slice none 0 0]) ?_ 0 _ rfl; (with_reducible repeat (first | refine blk_drewN ?_ _ | refine blk_drew ?_ | refine blk_alloc ?_ _)); exact BK345.out)) : gb346 ≠ gb345)); clear HO_3; clear BK345; clear HB; have HO_3 := n0_; have BK345 := n1_; have HB := n2_; have BK346 := n3_; have GW346 := n4_; have GE346 := n5_; have NB345_346 := n6_; have NB346_345 := n7_; clear n0_ n1_ n2_ n3_ n4_ n5_ n6_ n7_; clear hb hbox hg; have hnb8 := NB346_345.out; have hnc8 := NB345_346.out; have hcz9_0 : w7.cell? ⟨gb346, 0, none⟩ = some (.int .i64 0) := (blk_cell BK346.out 0).trans rfl; have hcz9_1 : w7.cell? ⟨gb346, 1, none⟩ = some (.int .i64 0) := (blk_cell BK346.out 1).trans rfl; have hcz9_2 : w7.cell? ⟨gb346, 2, none⟩ = some (.int .i64 0) := (blk_cell BK346.out 2).trans rfl; have hcz9_3 : w7.cell? ⟨gb346, 3, none⟩ = some (.slice none 0 0) := (blk_cell BK346.out 3).trans rfl; have hfz9_0 := blk_frozen BK346.out 0; have hfz9_1 := blk_frozen BK346.out 1; have hfz9_2 := blk_frozen BK346.out 2; have hfz9_3 := blk_frozen BK346.out 3; have hcz10_0 : w7.cell? ⟨gb345, 0, none⟩ = some (.int .i64 ((rd_T49 l0 x11_1).f0)) := (blk_cell BK345.out 0).trans rfl; have hcz10_1 : w7.cell? ⟨gb345, 1, none⟩ = some (.int .i64 ((rd_T49 l0 x11_1).f1)) := (blk_cell BK345.out 1).trans rfl; have hcz10_2 : w7.cell? ⟨gb345, 2, none⟩ = some (.int .i64 ((rd_T49 l0 x11_1).f2)) := (blk_cell BK345.out 2).trans rfl; have hcz10_3 : w7.cell? ⟨gb345, 3, none⟩ = some (.slice A344_3 ((rd_T49 l0 x11_1).f3).length c344_3) := (blk_cell BK345.out 3).trans rfl; have hfz10_0 := blk_frozen BK345.out 0; have hfz10_1 := blk_frozen BK345.out 1; have hfz10_2 := blk_frozen BK345.out 2; have hfz10_3 := blk_frozen BK345.out 3))
            go_loopg [25] k1 (fun kq v25 w' => ∃ (x25_2 : Int) (x347003_2 : List (S94)) (u347003 : Value), v25 = .int .i64 x25_2 ∧ Aside0 (ontimelaw43_plain.l1 kq x3_1 l0 (l0.length : Int) x11_1 ((rd_T49 l0 x11_1).f3) (((rd_T49 l0 x11_1).f3).length : Int) x25_2 ((rd_T49 l0 x11_1).f0) ((rd_T49 l0 x11_1).f1) ((rd_T49 l0 x11_1).f2) x347003_2 = some r) ∧ Aside0 (kq ≤ k1) ∧ Aside0 (Kd.S k93 93 w' w.heap.size (fun k_ => some k_ ≠ (u347003 : Value).ownBlock ∧ k_ ≠ gb346) u3 x3_1) ∧ Aside0 (Kd.R k94 94 w' w.heap.size (fun _ => True) u347003 x347003_2) ∧ Aside0 (w'.heap[gb345]? = some (.cells #[.int .i64 ((rd_T49 l0 x11_1).f0), .int .i64 ((rd_T49 l0 x11_1).f1), .int .i64 ((rd_T49 l0 x11_1).f2), (.slice A344_3 ((rd_T49 l0 x11_1).f3).length c344_3)] 49 (0, 0))) ∧ Aside0 (w'.heap[gb346]? = some (.cells #[.int .i64 ((rd_T49 l0 x11_1).f0), .int .i64 ((rd_T49 l0 x11_1).f1), .int .i64 ((rd_T49 l0 x11_1).f2), u347003] 93 (0, 0))) ∧ Aside0 (Below w.heap.size w w'))
            case atStart => exact ⟨(0), (([] : List (S94))), (.slice none 0 0), (by first | rfl | (simp; done) | (simp [*]; done)), H', ⟨Nat.le_refl _⟩, ⟨by (with_reducible repeat (first | apply Kd.S_alloc | apply Kd.S_drewN | apply Kd.S_drew)); exact Kd.S_mono (Kd.S_far (p := ⟨gb346, 3, none⟩) (Kd.S_far (p := ⟨gb346, 2, none⟩) (Kd.S_far (p := ⟨gb346, 1, none⟩) (Kd.S_far (p := ⟨gb346, 0, none⟩) (Kd.S_mono HO_3.out (fun k_ hk => (⟨hk, hk.2⟩ : _ ∧ k_ ≠ gb346))) (fun _ hk => hk.2) (.int .i64 ((rd_T49 l0 x11_1).f0))) (fun _ hk => hk.2) (.int .i64 ((rd_T49 l0 x11_1).f1))) (fun _ hk => hk.2) (.int .i64 ((rd_T49 l0 x11_1).f2))) (fun _ hk => hk.2) (.slice none 0 0)) (fun _ hk => ⟨(by simp [Value.ownBlock]), hk.1.2⟩)⟩, ⟨by first | exact Kd.R_nil _ _ _ _ _ | exact Kd.N_nil _ _ _ _ _ | exact Kd.V_nil _ _ _ _ _ | exact Kd.Q_nil _ _ _ _ _ | exact Kd.S_nil _ _ _ _ _⟩, ⟨by (with_reducible repeat (first | refine blk_drewN ?_ _ | refine blk_drew ?_ | refine blk_alloc ?_ _)); refine blk_far ?_ NB345_346.out _; (with_reducible repeat (first | refine blk_drewN ?_ _ | refine blk_drew ?_ | refine blk_alloc ?_ _)); refine blk_far ?_ NB345_346.out _; (with_reducible repeat (first | refine blk_drewN ?_ _ | refine blk_drew ?_ | refine blk_alloc ?_ _)); refine blk_far ?_ NB345_346.out _; (with_reducible repeat (first | refine blk_drewN ?_ _ | refine blk_drew ?_ | refine blk_alloc ?_ _)); refine blk_far ?_ NB345_346.out _; (with_reducible repeat (first | refine blk_drewN ?_ _ | refine blk_drew ?_ | refine blk_alloc ?_ _)); exact BK345.out⟩, ⟨by (with_reducible repeat (first | refine blk_drewN ?_ _ | refine blk_drew ?_ | refine blk_alloc ?_ _)); refine blk_put (cs := #[.int .i64 ((rd_T49 l0 x11_1).f0), .int .i64 ((rd_T49 l0 x11_1).f1), .int .i64 ((rd_T49 l0 x11_1).f2), .slice none 0 0]) ?_ 3 _ rfl; (with_reducible repeat (first | refine blk_drewN ?_ _ | refine blk_drew ?_ | refine blk_alloc ?_ _)); refine blk_put (cs := #[.int .i64 ((rd_T49 l0 x11_1).f0), .int .i64 ((rd_T49 l0 x11_1).f1), .int .i64 0, .slice none 0 0]) ?_ 2 _ rfl; (with_reducible repeat (first | refine blk_drewN ?_ _ | refine blk_drew ?_ | refine blk_alloc ?_ _)); refine blk_put (cs := #[.int .i64 ((rd_T49 l0 x11_1).f0), .int .i64 0, .int .i64 0, .slice none 0 0]) ?_ 1 _ rfl; (with_reducible repeat (first | refine blk_drewN ?_ _ | refine blk_drew ?_ | refine blk_alloc ?_ _)); refine blk_put (cs := #[.int .i64 0, .int .i64 0, .int .i64 0, .slice none 0 0]) ?_ 0 _ rfl; (with_reducible repeat (first | refine blk_drewN ?_ _ | refine blk_drew ?_ | refine blk_alloc ?_ _)); exact BK346.out⟩, ⟨by repeat (first | (with_reducible first | exact HB.out | apply below_alloc | apply pw_below_drewN | apply below_drew1 | refine below_set ?_ GE345.out | refine below_set ?_ GE346.out) | exact HB.out)⟩⟩
            case round =>
              clear H'
              try clear c2
              try clear c2b0
              try clear p2
              try clear c3
              try clear c3b0
              try clear p3
              try clear q3
              try clear hx3
              try clear c4
              try clear c4b0
              try clear c8
              try clear hcz10_0
              try clear hcz10_1
              try clear hcz10_2
              try clear hcz10_3
              try clear hcz6_0
              try clear hcz6_1
              try clear hcz6_2
              try clear hcz6_3
              try clear hcz9_0
              try clear hcz9_1
              try clear hcz9_2
              try clear hcz9_3
              try clear hfz10_0
              try clear hfz10_1
              try clear hfz10_2
              try clear hfz10_3
              try clear hfz6_0
              try clear hfz6_1
              try clear hfz6_2
              try clear hfz6_3
              try clear hfz9_0
              try clear hfz9_1
              try clear hfz9_2
              try clear hfz9_3
              try clear hx344_0
              try clear hx344_1
              try clear hx344_2
              try clear hx344_3
              try clear p344
              try clear q344
              obtain ⟨x25_2, x347003_2, u347003, rfl, HA, HK2, HO_3, HO_347003, BK345, BK346, HB⟩ := hrel
              cases gk with
              | zero => exact absurd HA.out (by simp [ontimelaw43_plain.l1])
              | succ k2 =>
                have H := HA.out
                clear HA
                simp only [ontimelaw43_plain.l1] at H
                by_cases c11 : x25_2 < (((rd_T49 l0 x11_1).f3).length : Int)
                · rw [if_pos c11] at H
                  have c11b0 : decide (x25_2 < (((rd_T49 l0 x11_1).f3).length : Int)) = true := decide_eq_true c11
                  clear c11
                  by_cases c12 : 0 ≤ x25_2
                  · rw [if_pos c12] at H
                    have c12b0 : decide (0 ≤ x25_2) = true := decide_eq_true c12
                    clear c12
                    by_cases c13 : x25_2 < (((rd_T49 l0 x11_1).f3).length : Int)
                    · rw [if_pos c13] at H
                      have c13b0 : decide (x25_2 < (((rd_T49 l0 x11_1).f3).length : Int)) = true := decide_eq_true c13
                      clear c13
                      by_cases c14 : x347003_2.length < 5864062014805
                      · rw [if_pos c14] at H
                        have LMc14 := Aside0.mk c14
                        clear c14
                        obtain ⟨y349, hy349⟩ : ∃ y_ : List (S94), y_ = (x347003_2 ++ [(⟨(rd_T68 ((rd_T49 l0 x11_1).f3) x25_2).f0, (rd_T68 ((rd_T49 l0 x11_1).f3) x25_2).f1, (rd_T68 ((rd_T49 l0 x11_1).f3) x25_2).f2⟩ : S94)]) := ⟨_, rfl⟩
                        replace H : (ontimelaw43_plain.l1 k2 x3_1 l0 (l0.length : Int) x11_1 ((rd_T49 l0 x11_1).f3) (((rd_T49 l0 x11_1).f3).length : Int) (wrap64 (x25_2 + 1)) ((rd_T49 l0 x11_1).f0) ((rd_T49 l0 x11_1).f1) ((rd_T49 l0 x11_1).f2) y349) = some r := by first | (rw [hy349]; with_reducible exact H) | (have H2_ := (Option.bind_some _ _).symm.trans H; rw [hy349]; with_reducible exact H2_) | (have H2_ := (Option.bind_some _ _).symm.trans H; with_reducible exact H2_) | with_reducible exact H | (rw [hy349]; exact H) | exact H
                        have Ny349 := Aside0.mk hy349
                        clear hy349
                        have H' := Aside0.mk H
                        clear H
                        have p347 : 0 ≤ (x25_2 : Int) := of_decide_eq_true (by first | (with_reducible assumption) | assumption)
                        have q347 : x25_2 < (((rd_T49 l0 x11_1).f3).length : Int) := of_decide_eq_true (by first | (with_reducible assumption) | assumption)
                        obtain ⟨ad347, e347, hx347_0, hx347_1, hx347_2⟩ := at_T68 HR344_3.out x25_2 p347 q347
                        cases e347
                        replace hx347_0 := (HB.out.cell (World.block_lt_of_cell? w _ hx347_0)).trans hx347_0
                        replace hx347_1 := (HB.out.cell (World.block_lt_of_cell? w _ hx347_1)).trans hx347_1
                        replace hx347_2 := (HB.out.cell (World.block_lt_of_cell? w _ hx347_2)).trans hx347_2
                        replace p347 := eq_true p347
                        replace q347 := eq_true q347
                        go_wp2_with (first | ((with_reducible refine gate_dst (N := 8) rfl ?_); refine box_event ?hg (N := 8) ?hd (cs := #[.int .i64 0, .int .i64 0, .int .i64 0]) (t := 68) ?hr ?_; (case hd => rfl); (case hg => rfl); (case hr => first | (go_simp; done) | (go_simp; rfl)); intro gb348 hg w15 hbox hb; have n0_ := Aside0.mk (Kd.S_below (by (with_reducible repeat (first | apply Kd.S_alloc | apply Kd.S_drewN | apply Kd.S_drew)); exact HO_3.out) hb); have n1_ := Aside0.mk (Kd.R_below (by (with_reducible repeat (first | apply Kd.R_alloc | apply Kd.R_drewN | apply Kd.R_drew)); exact HO_347003.out) hb); have n2_ := Aside0.mk (blk_below (g := gb345) (o := .cells #[.int .i64 ((rd_T49 l0 x11_1).f0), .int .i64 ((rd_T49 l0 x11_1).f1), .int .i64 ((rd_T49 l0 x11_1).f2), .slice (some ad347) ((rd_T49 l0 x11_1).f3).length c344_3] 49 (0, 0)) (by (with_reducible repeat (first | refine blk_drewN ?_ _ | refine blk_drew ?_ | refine blk_alloc ?_ _)); exact BK345.out) hb); have n3_ := Aside0.mk (blk_below (g := gb346) (o := .cells #[.int .i64 ((rd_T49 l0 x11_1).f0), .int .i64 ((rd_T49 l0 x11_1).f1), .int .i64 ((rd_T49 l0 x11_1).f2), u347003] 93 (0, 0)) (by (with_reducible repeat (first | refine blk_drewN ?_ _ | refine blk_drew ?_ | refine blk_alloc ?_ _)); exact BK346.out) hb); have n4_ := Aside0.mk (below_step (by repeat (first | (with_reducible first | exact HB.out | apply below_alloc | apply pw_below_drewN | apply below_drew1 | refine below_set ?_ GE345.out | refine below_set ?_ GE346.out) | exact HB.out)) hb); have n5_ := Aside0.mk (hbox); have n6_ := Aside0.mk ((by rw [hg]; exact (below_size (by repeat (first | (with_reducible first | exact HB.out | apply below_alloc | apply pw_below_drewN | apply below_drew1 | refine below_set ?_ GE345.out | refine below_set ?_ GE346.out) | exact HB.out))) : w.heap.size ≤ gb348)); have n7_ := Aside0.mk ((by rw [hg]; exact (below_size (by repeat (first | (with_reducible first | exact HB.out | apply below_alloc | apply pw_below_drewN | apply below_drew1 | refine below_set ?_ GE345.out | refine below_set ?_ GE346.out) | exact HB.out))) : w.heap.size ≤ gb348)); have n8_ := Aside0.mk ((by rw [hg]; exact Nat.ne_of_lt (blk_lt (g := gb345) (o := .cells #[.int .i64 ((rd_T49 l0 x11_1).f0), .int .i64 ((rd_T49 l0 x11_1).f1), .int .i64 ((rd_T49 l0 x11_1).f2), .slice (some ad347) ((rd_T49 l0 x11_1).f3).length c344_3] 49 (0, 0)) (by (with_reducible repeat (first | refine blk_drewN ?_ _ | refine blk_drew ?_ | refine blk_alloc ?_ _)); exact BK345.out)) : gb345 ≠ gb348)); have n9_ := Aside0.mk ((by rw [hg]; exact Nat.ne_of_gt (blk_lt (g := gb345) (o := .cells #[.int .i64 ((rd_T49 l0 x11_1).f0), .int .i64 ((rd_T49 l0 x11_1).f1), .int .i64 ((rd_T49 l0 x11_1).f2), .slice (some ad347) ((rd_T49 l0 x11_1).f3).length c344_3] 49 (0, 0)) (by (with_reducible repeat (first | refine blk_drewN ?_ _ | refine blk_drew ?_ | refine blk_alloc ?_ _)); exact BK345.out)) : gb348 ≠ gb345)); have n10_ := Aside0.mk ((by rw [hg]; exact Nat.ne_of_lt (blk_lt (g := gb346) (o := .cells #[.int .i64 ((rd_T49 l0 x11_1).f0), .int .i64 ((rd_T49 l0 x11_1).f1), .int .i64 ((rd_T49 l0 x11_1).f2), u347003] 93 (0, 0)) (by (with_reducible repeat (first | refine blk_drewN ?_ _ | refine blk_drew ?_ | refine blk_alloc ?_ _)); exact BK346.out)) : gb346 ≠ gb348)); have n11_ := Aside0.mk ((by rw [hg]; exact Nat.ne_of_gt (blk_lt (g := gb346) (o := .cells #[.int .i64 ((rd_T49 l0 x11_1).f0), .int .i64 ((rd_T49 l0 x11_1).f1), .int .i64 ((rd_T49 l0 x11_1).f2), u347003] 93 (0, 0)) (by (with_reducible repeat (first | refine blk_drewN ?_ _ | refine blk_drew ?_ | refine blk_alloc ?_ _)); exact BK346.out)) : gb348 ≠ gb346)); clear HO_3; clear HO_347003; clear BK345; clear BK346; clear HB; have HO_3 := n0_; have HO_347003 := n1_; have BK345 := n2_; have BK346 := n3_; have HB := n4_; have BK348 := n5_; have GW348 := n6_; have GE348 := n7_; have NB345_348 := n8_; have NB348_345 := n9_; have NB346_348 := n10_; have NB348_346 := n11_; clear n0_ n1_ n2_ n3_ n4_ n5_ n6_ n7_ n8_ n9_ n10_ n11_; clear hb hbox hg; have hnb16 := NB348_345.out; have hnc16 := NB345_348.out; have hnb17 := NB348_346.out; have hnc17 := NB346_348.out; have hcz18_0 : w15.cell? ⟨gb348, 0, none⟩ = some (.int .i64 0) := (blk_cell BK348.out 0).trans rfl; have hcz18_1 : w15.cell? ⟨gb348, 1, none⟩ = some (.int .i64 0) := (blk_cell BK348.out 1).trans rfl; have hcz18_2 : w15.cell? ⟨gb348, 2, none⟩ = some (.int .i64 0) := (blk_cell BK348.out 2).trans rfl; have hfz18_0 := blk_frozen BK348.out 0; have hfz18_1 := blk_frozen BK348.out 1; have hfz18_2 := blk_frozen BK348.out 2; have hnb19 := NB346_345.out; have hnc19 := NB345_346.out; have hcz20_0 : w15.cell? ⟨gb346, 0, none⟩ = some (.int .i64 ((rd_T49 l0 x11_1).f0)) := (blk_cell BK346.out 0).trans rfl; have hcz20_1 : w15.cell? ⟨gb346, 1, none⟩ = some (.int .i64 ((rd_T49 l0 x11_1).f1)) := (blk_cell BK346.out 1).trans rfl; have hcz20_2 : w15.cell? ⟨gb346, 2, none⟩ = some (.int .i64 ((rd_T49 l0 x11_1).f2)) := (blk_cell BK346.out 2).trans rfl; have hcz20_3 : w15.cell? ⟨gb346, 3, none⟩ = some (u347003) := (blk_cell BK346.out 3).trans rfl; have hfz20_0 := blk_frozen BK346.out 0; have hfz20_1 := blk_frozen BK346.out 1; have hfz20_2 := blk_frozen BK346.out 2; have hfz20_3 := blk_frozen BK346.out 3) | ((with_reducible refine gate_builtin (b := .append) (xs := #[.tmp 30, .tmp 38]) rfl ?_); at_builtin; refine Kd.R_append k94 (w0 := w) w.heap.size rfl (.tmp 30) (.tmp 38) 91 94 (.agg #[(.int .i64 0), (.int .i64 0), (.int .i64 0)]) 24 rfl Try.underlying91 info94 rfl (by decide) (by omega) u347003 x347003_2 (⟨(rd_T68 ((rd_T49 l0 x11_1).f3) x25_2).f0, (rd_T68 ((rd_T49 l0 x11_1).f3) x25_2).f1, (rd_T68 ((rd_T49 l0 x11_1).f3) x25_2).f2⟩ : S94) [.int .i64 ((rd_T68 ((rd_T49 l0 x11_1).f3) x25_2).f0), .int .i64 ((rd_T68 ((rd_T49 l0 x11_1).f3) x25_2).f1), .int .i64 ((rd_T68 ((rd_T49 l0 x11_1).f3) x25_2).f2)] (fun _ => True) (fun _ => False) rfl (by first | (go_simp; done) | (go_simp; rfl)) ?aP (fun _ hk => hk.elim) ?aF ?aO ?aB ?aS ?aL ?_; (case aP => exact k94_mkM _ _ _ (⟨(rd_T68 ((rd_T49 l0 x11_1).f3) x25_2).f0, (rd_T68 ((rd_T49 l0 x11_1).f3) x25_2).f1, (rd_T68 ((rd_T49 l0 x11_1).f3) x25_2).f2⟩ : S94)); (case aB => exact (by repeat (first | (with_reducible first | exact HB.out | apply below_alloc | apply pw_below_drewN | apply below_drew1 | refine below_set ?_ GE345.out | refine below_set ?_ GE346.out | refine below_set ?_ GE348.out) | exact HB.out))); (case aF => exact (fun _ _ => trivial)); (case aO => exact (by (with_reducible repeat (first | apply Kd.R_alloc | apply Kd.R_drewN | apply Kd.R_drew)); exact Kd.R_mono (Kd.R_far (p := ⟨gb348, 2, none⟩) (Kd.R_far (p := ⟨gb348, 1, none⟩) (Kd.R_far (p := ⟨gb348, 0, none⟩) (Kd.R_types HO_347003.out BK348.out (by decide)) (fun _ hk => hk.2) (.int .i64 ((rd_T68 ((rd_T49 l0 x11_1).f3) x25_2).f0))) (fun _ hk => hk.2) (.int .i64 ((rd_T68 ((rd_T49 l0 x11_1).f3) x25_2).f1))) (fun _ hk => hk.2) (.int .i64 ((rd_T68 ((rd_T49 l0 x11_1).f3) x25_2).f2))) (fun _ hk => trivial))); (case aS => exact (below_size (by repeat (first | (with_reducible first | exact HB.out | apply below_alloc | apply pw_below_drewN | apply below_drew1 | refine below_set ?_ GE345.out | refine below_set ?_ GE346.out | refine below_set ?_ GE348.out) | exact HB.out)))); (case aL => have := LMc14.out; omega); intro v350 w21 ho hb hg hat; rw [← Ny349.out] at ho; have n0_ := Aside0.mk (Kd.S_after (ok := (fun k_ => k_ ≠ gb346)) (by (with_reducible repeat (first | apply Kd.S_alloc | apply Kd.S_drewN | apply Kd.S_drew)); exact Kd.S_mono (Kd.S_far (p := ⟨gb348, 2, none⟩) (Kd.S_far (p := ⟨gb348, 1, none⟩) (Kd.S_far (p := ⟨gb348, 0, none⟩) (Kd.S_types HO_3.out BK348.out (by decide)) (fun _ hk => hk.2) (.int .i64 ((rd_T68 ((rd_T49 l0 x11_1).f3) x25_2).f0))) (fun _ hk => hk.2) (.int .i64 ((rd_T68 ((rd_T49 l0 x11_1).f3) x25_2).f1))) (fun _ hk => hk.2) (.int .i64 ((rd_T68 ((rd_T49 l0 x11_1).f3) x25_2).f2))) (fun _ hk => ⟨hk.1.2, hk.1.1⟩)) hg hat); have n1_ := Aside0.mk (blk_grown (g := gb345) (o := .cells #[.int .i64 ((rd_T49 l0 x11_1).f0), .int .i64 ((rd_T49 l0 x11_1).f1), .int .i64 ((rd_T49 l0 x11_1).f2), .slice (some ad347) ((rd_T49 l0 x11_1).f3).length c344_3] 49 (0, 0)) (by (with_reducible repeat (first | refine blk_drewN ?_ _ | refine blk_drew ?_ | refine blk_alloc ?_ _)); refine blk_far ?_ NB345_348.out _; (with_reducible repeat (first | refine blk_drewN ?_ _ | refine blk_drew ?_ | refine blk_alloc ?_ _)); refine blk_far ?_ NB345_348.out _; (with_reducible repeat (first | refine blk_drewN ?_ _ | refine blk_drew ?_ | refine blk_alloc ?_ _)); refine blk_far ?_ NB345_348.out _; (with_reducible repeat (first | refine blk_drewN ?_ _ | refine blk_drew ?_ | refine blk_alloc ?_ _)); exact BK345.out) hg (Kd.R_ne HO_347003.out BK345.out (by decide))); have n2_ := Aside0.mk (blk_grown (g := gb346) (o := .cells #[.int .i64 ((rd_T49 l0 x11_1).f0), .int .i64 ((rd_T49 l0 x11_1).f1), .int .i64 ((rd_T49 l0 x11_1).f2), u347003] 93 (0, 0)) (by (with_reducible repeat (first | refine blk_drewN ?_ _ | refine blk_drew ?_ | refine blk_alloc ?_ _)); refine blk_far ?_ NB346_348.out _; (with_reducible repeat (first | refine blk_drewN ?_ _ | refine blk_drew ?_ | refine blk_alloc ?_ _)); refine blk_far ?_ NB346_348.out _; (with_reducible repeat (first | refine blk_drewN ?_ _ | refine blk_drew ?_ | refine blk_alloc ?_ _)); refine blk_far ?_ NB346_348.out _; (with_reducible repeat (first | refine blk_drewN ?_ _ | refine blk_drew ?_ | refine blk_alloc ?_ _)); exact BK346.out) hg (Kd.R_ne HO_347003.out BK346.out (by decide))); have n3_ := Aside0.mk (blk_grown (g := gb348) (o := .cells #[.int .i64 ((rd_T68 ((rd_T49 l0 x11_1).f3) x25_2).f0), .int .i64 ((rd_T68 ((rd_T49 l0 x11_1).f3) x25_2).f1), .int .i64 ((rd_T68 ((rd_T49 l0 x11_1).f3) x25_2).f2)] 68 (0, 0)) (by (with_reducible repeat (first | refine blk_drewN ?_ _ | refine blk_drew ?_ | refine blk_alloc ?_ _)); refine blk_put (cs := #[.int .i64 ((rd_T68 ((rd_T49 l0 x11_1).f3) x25_2).f0), .int .i64 ((rd_T68 ((rd_T49 l0 x11_1).f3) x25_2).f1), .int .i64 0]) ?_ 2 _ rfl; (with_reducible repeat (first | refine blk_drewN ?_ _ | refine blk_drew ?_ | refine blk_alloc ?_ _)); refine blk_put (cs := #[.int .i64 ((rd_T68 ((rd_T49 l0 x11_1).f3) x25_2).f0), .int .i64 0, .int .i64 0]) ?_ 1 _ rfl; (with_reducible repeat (first | refine blk_drewN ?_ _ | refine blk_drew ?_ | refine blk_alloc ?_ _)); refine blk_put (cs := #[.int .i64 0, .int .i64 0, .int .i64 0]) ?_ 0 _ rfl; (with_reducible repeat (first | refine blk_drewN ?_ _ | refine blk_drew ?_ | refine blk_alloc ?_ _)); exact BK348.out) hg (Kd.R_ne HO_347003.out BK348.out (by decide))); have n4_ := Aside0.mk (hb); have n5_ := Aside0.mk (ho); clear HO_3; clear BK345; clear BK346; clear BK348; clear HB; clear HO_347003; have HO_3 := n0_; have BK345 := n1_; have BK346 := n2_; have BK348 := n3_; have HB := n4_; have HO351 := n5_; clear n0_ n1_ n2_ n3_ n4_ n5_; clear ho hb hg hat; obtain ⟨Ao22, co22, eo22⟩ := Kd.R_slice HO351.out; subst eo22; have hcz23_0 : w21.cell? ⟨gb346, 0, none⟩ = some (.int .i64 ((rd_T49 l0 x11_1).f0)) := (blk_cell BK346.out 0).trans rfl; have hcz23_1 : w21.cell? ⟨gb346, 1, none⟩ = some (.int .i64 ((rd_T49 l0 x11_1).f1)) := (blk_cell BK346.out 1).trans rfl; have hcz23_2 : w21.cell? ⟨gb346, 2, none⟩ = some (.int .i64 ((rd_T49 l0 x11_1).f2)) := (blk_cell BK346.out 2).trans rfl; have hcz23_3 : w21.cell? ⟨gb346, 3, none⟩ = some (u347003) := (blk_cell BK346.out 3).trans rfl; have hfz23_0 := blk_frozen BK346.out 0; have hfz23_1 := blk_frozen BK346.out 1; have hfz23_2 := blk_frozen BK346.out 2; have hfz23_3 := blk_frozen BK346.out 3))
                        go_roundg k2
                        case measure => have := HK1.out; have := HK2.out; omega
                        case rel => exact ⟨(wrap64 (x25_2 + 1)), (y349), (.slice Ao22 y349.length co22), (by first | rfl | (simp; done) | (simp [*]; done)), H', ⟨by have := HK1.out; have := HK2.out; omega⟩, ⟨by (with_reducible repeat (first | apply Kd.S_alloc | apply Kd.S_drewN | apply Kd.S_drew)); exact Kd.S_mono (Kd.S_far (p := ⟨gb346, 3, none⟩) (Kd.S_mono HO_3.out (fun k_ hk => (⟨hk, hk.1⟩ : _ ∧ k_ ≠ gb346))) (fun _ hk => hk.2) (.slice Ao22 y349.length co22)) (fun _ hk => ⟨hk.1.2, hk.1.1⟩)⟩, ⟨by (with_reducible repeat (first | apply Kd.R_alloc | apply Kd.R_drewN | apply Kd.R_drew)); exact Kd.R_mono (Kd.R_far (p := ⟨gb346, 3, none⟩) (Kd.R_types HO351.out BK346.out (by decide)) (fun _ hk => hk.2) (.slice Ao22 y349.length co22)) (fun _ hk => trivial)⟩, ⟨by (with_reducible repeat (first | refine blk_drewN ?_ _ | refine blk_drew ?_ | refine blk_alloc ?_ _)); refine blk_far ?_ NB345_346.out _; (with_reducible repeat (first | refine blk_drewN ?_ _ | refine blk_drew ?_ | refine blk_alloc ?_ _)); exact BK345.out⟩, ⟨by (with_reducible repeat (first | refine blk_drewN ?_ _ | refine blk_drew ?_ | refine blk_alloc ?_ _)); refine blk_put (cs := #[.int .i64 ((rd_T49 l0 x11_1).f0), .int .i64 ((rd_T49 l0 x11_1).f1), .int .i64 ((rd_T49 l0 x11_1).f2), u347003]) ?_ 3 _ rfl; (with_reducible repeat (first | refine blk_drewN ?_ _ | refine blk_drew ?_ | refine blk_alloc ?_ _)); exact BK346.out⟩, ⟨by repeat (first | (with_reducible first | exact HB.out | apply below_alloc | apply pw_below_drewN | apply below_drew1 | refine below_set ?_ GE345.out | refine below_set ?_ GE346.out | refine below_set ?_ GE348.out) | exact HB.out)⟩⟩
                      · rw [if_neg c14] at H
                        exact absurd H (by simp)
                    · rw [if_neg c13] at H
                      exact absurd H (by simp)
                  · rw [if_neg c12] at H
                    exact absurd H (by simp)
                · rw [if_neg c11] at H
                  have c11b0 : decide (x25_2 < (((rd_T49 l0 x11_1).f3).length : Int)) = false := decide_eq_false c11
                  clear c11
                  by_cases c24 : x3_1.length < 2932031007402
                  · rw [if_pos c24] at H
                    have LMc24 := Aside0.mk c24
                    clear c24
                    obtain ⟨y352, hy352⟩ : ∃ y_ : List (S93), y_ = (x3_1 ++ [(⟨((rd_T49 l0 x11_1).f0), ((rd_T49 l0 x11_1).f1), ((rd_T49 l0 x11_1).f2), x347003_2⟩ : S93)]) := ⟨_, rfl⟩
                    replace H : (ontimelaw43_plain.l0 k2 y352 l0 (l0.length : Int) (wrap64 (x11_1 + 1))) = some r := by first | (rw [hy352]; with_reducible exact H) | (have H2_ := (Option.bind_some _ _).symm.trans H; rw [hy352]; with_reducible exact H2_) | (have H2_ := (Option.bind_some _ _).symm.trans H; with_reducible exact H2_) | with_reducible exact H | (rw [hy352]; exact H) | exact H
                    have Ny352 := Aside0.mk hy352
                    clear hy352
                    have H' := Aside0.mk H
                    clear H
                    have hnb25 := NB346_345.out
                    have hnc25 := NB345_346.out
                    have hcz26_0 : wr.cell? ⟨gb346, 0, none⟩ = some (.int .i64 ((rd_T49 l0 x11_1).f0)) := (blk_cell BK346.out 0).trans rfl
                    have hcz26_1 : wr.cell? ⟨gb346, 1, none⟩ = some (.int .i64 ((rd_T49 l0 x11_1).f1)) := (blk_cell BK346.out 1).trans rfl
                    have hcz26_2 : wr.cell? ⟨gb346, 2, none⟩ = some (.int .i64 ((rd_T49 l0 x11_1).f2)) := (blk_cell BK346.out 2).trans rfl
                    have hcz26_3 : wr.cell? ⟨gb346, 3, none⟩ = some (u347003) := (blk_cell BK346.out 3).trans rfl
                    have hfz26_0 := blk_frozen BK346.out 0
                    have hfz26_1 := blk_frozen BK346.out 1
                    have hfz26_2 := blk_frozen BK346.out 2
                    have hfz26_3 := blk_frozen BK346.out 3
                    obtain ⟨Ao28, co28, eo28⟩ := Kd.R_slice HO_347003.out
                    subst eo28
                    go_wp2_with (first | ((with_reducible refine gate_builtin (b := .append) (xs := #[.tmp 42, .tmp 44]) rfl ?_); at_builtin; refine Kd.S_append k93 (w0 := w) w.heap.size rfl (.tmp 42) (.tmp 44) 43 93 (.agg #[(.int .i64 0), (.int .i64 0), (.int .i64 0), (.slice none 0 0)]) 48 rfl Try.underlying43 info93 rfl (by decide) (by omega) u3 x3_1 (⟨((rd_T49 l0 x11_1).f0), ((rd_T49 l0 x11_1).f1), ((rd_T49 l0 x11_1).f2), x347003_2⟩ : S93) [.int .i64 ((rd_T49 l0 x11_1).f0), .int .i64 ((rd_T49 l0 x11_1).f1), .int .i64 ((rd_T49 l0 x11_1).f2), .slice Ao28 x347003_2.length co28] (fun k_ => k_ ≠ gb346) (fun k_ => some k_ = (.slice Ao28 x347003_2.length co28 : Value).ownBlock) rfl rfl ?aP (fun k_ hk_ => ((Kd.R_mono (ok' := fun k_ => ((fun k_ => k_ ≠ gb346)) k_ ∧ some k_ ≠ (u3 : Value).ownBlock) (Kd.R_types (Kd.R_apart' (HO_347003.out) (Kd.S_typed HO_3.out) (by decide)) BK346.out (by decide)) (fun k_ hk => ⟨hk.2, hk.1.2⟩))).1 k_ hk_.symm) ?aF ?aO ?aB ?aS ?aL ?_; (case aP => exact k93_mkM _ _ _ (⟨((rd_T49 l0 x11_1).f0), ((rd_T49 l0 x11_1).f1), ((rd_T49 l0 x11_1).f2), x347003_2⟩ : S93) (Kd.R_mono (Kd.R_tight rfl (Kd.R_mono (ok' := fun k_ => ((fun k_ => k_ ≠ gb346)) k_ ∧ some k_ ≠ (u3 : Value).ownBlock) (Kd.R_types (Kd.R_apart' (HO_347003.out) (Kd.S_typed HO_3.out) (by decide)) BK346.out (by decide)) (fun k_ hk => ⟨hk.2, hk.1.2⟩))) (fun _ h_ => h_))); (case aB => exact (by repeat (first | (with_reducible first | exact HB.out | apply below_alloc | apply pw_below_drewN | apply below_drew1 | refine below_set ?_ GE345.out | refine below_set ?_ GE346.out) | exact HB.out))); (case aF => exact (fun k_ hk => Kd.freshB (g := gb346) (o := .cells #[.int .i64 ((rd_T49 l0 x11_1).f0), .int .i64 ((rd_T49 l0 x11_1).f1), .int .i64 ((rd_T49 l0 x11_1).f2), .slice Ao28 x347003_2.length co28] 93 (0, 0)) (by (with_reducible repeat (first | refine blk_drewN ?_ _ | refine blk_drew ?_ | refine blk_alloc ?_ _)); exact BK346.out) k_ hk)); (case aO => exact (by (with_reducible repeat (first | apply Kd.S_alloc | apply Kd.S_drewN | apply Kd.S_drew)); exact Kd.S_mono HO_3.out (fun k_ hk => ⟨hk.2, fun e_ => hk.1 e_⟩))); (case aS => exact (below_size (by repeat (first | (with_reducible first | exact HB.out | apply below_alloc | apply pw_below_drewN | apply below_drew1 | refine below_set ?_ GE345.out | refine below_set ?_ GE346.out) | exact HB.out)))); (case aL => have := LMc24.out; omega); intro v353 w27 ho hb hg hat; rw [← Ny352.out] at ho; have n0_ := Aside0.mk (blk_grown (g := gb345) (o := .cells #[.int .i64 ((rd_T49 l0 x11_1).f0), .int .i64 ((rd_T49 l0 x11_1).f1), .int .i64 ((rd_T49 l0 x11_1).f2), .slice A344_3 ((rd_T49 l0 x11_1).f3).length c344_3] 49 (0, 0)) (by (with_reducible repeat (first | refine blk_drewN ?_ _ | refine blk_drew ?_ | refine blk_alloc ?_ _)); exact BK345.out) hg (Kd.S_ne HO_3.out BK345.out (by decide))); have n1_ := Aside0.mk (blk_grown (g := gb346) (o := .cells #[.int .i64 ((rd_T49 l0 x11_1).f0), .int .i64 ((rd_T49 l0 x11_1).f1), .int .i64 ((rd_T49 l0 x11_1).f2), .slice Ao28 x347003_2.length co28] 93 (0, 0)) (by (with_reducible repeat (first | refine blk_drewN ?_ _ | refine blk_drew ?_ | refine blk_alloc ?_ _)); exact BK346.out) hg (Kd.S_away HO_3.out (fun _ hk => hk.2))); have n2_ := Aside0.mk (hb); have n3_ := Aside0.mk (ho); clear BK345; clear BK346; clear HB; clear HO_3; clear HO_347003; have BK345 := n0_; have BK346 := n1_; have HB := n2_; have HO354 := n3_; clear n0_ n1_ n2_ n3_; clear ho hb hg hat))
                    go_roundg k2
                    case measure => have := HK1.out; have := HK2.out; omega
                    case rel => exact ⟨(y352), (wrap64 (x11_1 + 1)), (by first | rfl | (simp; done) | (simp [*]; done)), H', ⟨by have := HK1.out; have := HK2.out; omega⟩, ⟨by (with_reducible repeat (first | apply Kd.S_alloc | apply Kd.S_drewN | apply Kd.S_drew)); exact Kd.S_mono HO354.out (fun _ hk => trivial)⟩, ⟨by repeat (first | (with_reducible first | exact HB.out | apply below_alloc | apply pw_below_drewN | apply below_drew1 | refine below_set ?_ GE345.out | refine below_set ?_ GE346.out) | exact HB.out)⟩⟩
                  · rw [if_neg c24] at H
                    exact absurd H (by simp)
          · rw [if_neg c4] at H
            exact absurd H (by simp)
        · rw [if_neg c3] at H
          exact absurd H (by simp)
      · rw [if_neg c2] at H
        have c2b0 : decide (x11_1 < (l0.length : Int)) = false := decide_eq_false c2
        clear c2
        obtain rfl := Option.some.inj H
        go_wp2
        go_ret
        exact ⟨_, by first | rfl | (simp [errW_none, errW_some] <;> rfl) | (simp [*, errW_none, errW_some] <;> rfl), by (with_reducible repeat (first | apply Kd.S_alloc | apply Kd.S_drewN | apply Kd.S_drew)); exact HO_3.out, by repeat (first | (with_reducible first | exact HB.out | apply below_alloc | apply pw_below_drewN | apply below_drew1) | exact HB.out)⟩

end Go.Proofs.Ytcmifojplgmgkaa.P
