-- written by wip/drive.py (a driver of this session's own over the kit's print.py)
import Derived.Test.YtcmifojplgmgkaaP0
import Derived.Test.YtcmifojplgmgkaaP1
import Derived.Test.YtcmifojplgmgkaaP16
namespace Go.Proofs.Ytcmifojplgmgkaa.P
open Go.RowKit Go.Proofs.YtcmifojplgmgkaaW.PrintWords Go.Proofs.YtcmifojplgmgkaaW.PrintLast Go.Proofs.YtcmifojplgmgkaaW.PrintMore
attribute [local go_sem] max2_int min2_int max_two min_two max_three min_three max_four min_four   -- for this text's walks alone
set_option linter.unusedVariables false
set_option linter.unusedSimpArgs false

attribute [local go_sem high] eqA34
/-! ### ceiling_Job: function 38 -/
def ceiling_Job.l0 : Nat → List (S34) → List (S34) → Int → Int → Option (Bool)
  | 0, _, _, _, _ => none
  | k + 1, x0, x1, x12, x13 => if x13 < x12 then (if 0 ≤ x13 then (if x13 < (x0.length : Int) then (if x13 < (x1.length : Int) then (if (!(((rd_T34 x0 x13).f0) == ((rd_T34 x1 x13).f0)) || (!(((rd_T34 x0 x13).f1) == ((rd_T34 x1 x13).f1)) || (!(((rd_T34 x0 x13).f2) == ((rd_T34 x1 x13).f2)) || (!(((rd_T34 x0 x13).f3) == ((rd_T34 x1 x13).f3)) || (!(((rd_T34 x0 x13).f4) == ((rd_T34 x1 x13).f4))))))) = true then (some false) else (ceiling_Job.l0 k x0 x1 x12 (wrap64 (x13 + 1)))) else (none)) else (none)) else (none)) else (some true)
def ceiling_Job.f (k : Nat) (l0 : List (S34)) (l1 : List (S34)) : Option (Bool) := if (l0.length : Int) = (l1.length : Int) then (ceiling_Job.l0 k l0 l1 (l0.length : Int) 0) else (some false)
theorem ceiling_Job.mono_l : ∀ k, (∀ y0 y1 y2 y3, LeO (ceiling_Job.l0 k y0 y1 y2 y3) (ceiling_Job.l0 (k + 1) y0 y1 y2 y3))
  | 0 => fun _ _ _ _ r h => by simp [ceiling_Job.l0] at h
  | k + 1 => by
    have ih0 := ceiling_Job.mono_l k
    · intro y0 y1 y2 y3
      unfold ceiling_Job.l0
      repeat' first
      | (with_reducible exact ih0 _ _ _ _)
      | (with_reducible exact LeO.refl _)
      | (with_reducible exact LeO.none _)
      | (with_reducible refine LeO.ite ?_ ?_)
      | (with_reducible refine LeO.bind ?_ (fun _ => ?_))
      | exact ih0 _ _ _ _
      | exact LeO.none _
      | refine LeO.ite ?_ ?_
      | refine LeO.bind ?_ (fun _ => ?_)
theorem ceiling_Job.mono : ∀ a0 a1 k, LeO (ceiling_Job.f k a0 a1) (ceiling_Job.f (k + 1) a0 a1) := by
  intro a0 a1 k
  have ih0 := ceiling_Job.mono_l k
  unfold ceiling_Job.f
  repeat' first
      | (with_reducible exact ih0 _ _ _ _)
      | (with_reducible exact LeO.refl _)
      | (with_reducible exact LeO.none _)
      | (with_reducible refine LeO.ite ?_ ?_)
      | (with_reducible refine LeO.bind ?_ (fun _ => ?_))
      | exact ih0 _ _ _ _
      | exact LeO.none _
      | refine LeO.ite ?_ ?_
      | refine LeO.bind ?_ (fun _ => ?_)
set_option maxHeartbeats 8000000 in
set_option maxRecDepth 100000 in
theorem ceiling_Job.calls (k : Nat) (A0 : Option Addr) (c0 : Nat) (l0 : List (S34)) (A1 : Option Addr) (c1 : Nat) (l1 : List (S34)) (r : Bool) (w : World) (hr0 : Kd.C k34 w A0 l0.length l0) (hc0 : l0.length ≤ c0) (hr1 : Kd.C k34 w A1 l1.length l1) (hc1 : l1.length ≤ c1) (h : ceiling_Job.f k l0 l1 = some r) :
    Calls Try.prog 38 #[.slice A0 l0.length c0, .slice A1 l1.length c1] w fun e w' => e = .returned (.bool r) ∧ Drawn0 w w' := by
  have hu34 := Try.underlying34
  have HR0 := Aside0.mk hr0
  have HC0 := Aside0.mk hc0
  clear hr0 hc0
  have HR1 := Aside0.mk hr1
  have HC1 := Aside0.mk hc1
  clear hr1 hc1
  have H : (if (l0.length : Int) = (l1.length : Int) then (ceiling_Job.l0 k l0 l1 (l0.length : Int) 0) else (some false)) = some r := h
  clear h
  by_cases c3 : (l0.length : Int) = (l1.length : Int)
  · rw [if_pos c3] at H
    have c3b0 : ((l0.length : Int) == (l1.length : Int)) = true := beq_iff_eq.mpr c3
    have c3b1 : ((l0.length : Int) != (l1.length : Int)) = false := bne_eq_false_iff_eq.mpr c3
    have c3b2 : (l0.length == l1.length) = true := by first | simpa using c3 | (simp at c3 ⊢; omega)
    clear c3
    have H' := Aside0.mk H
    clear H
    go_enter Try.func38, Try.ntmps38
    go_wp2
    repeat (go_quiet (fail); try go_wp2)
    go_loopg [13] k (fun kq v13 w' => ∃ (x13_1 : Int), v13 = .int .i64 x13_1 ∧ Aside0 (ceiling_Job.l0 kq l0 l1 (l0.length : Int) x13_1 = some r) ∧ Aside0 (kq ≤ k) ∧ Drawn0 w w')
    case atStart => exact ⟨(0), (by first | rfl | (simp; done) | (simp [*]; done)), H', ⟨Nat.le_refl _⟩, by repeat (first | exact Drawn0.refl _ | apply Drawn0.step)⟩
    case round =>
      clear H'
      try clear c1
      try clear p2
      try clear c3
      try clear c3b0
      try clear c3b1
      try clear c3b2
      obtain ⟨x13_1, rfl, HA, HK1, ⟨m1, rfl⟩⟩ := hrel
      cases gk with
      | zero => exact absurd HA.out (by simp [ceiling_Job.l0])
      | succ k1 =>
        have H := HA.out
        clear HA
        simp only [ceiling_Job.l0] at H
        by_cases c4 : x13_1 < (l0.length : Int)
        · rw [if_pos c4] at H
          have c4b0 : decide (x13_1 < (l0.length : Int)) = true := decide_eq_true c4
          clear c4
          by_cases c5 : 0 ≤ x13_1
          · rw [if_pos c5] at H
            have c5b0 : decide (0 ≤ x13_1) = true := decide_eq_true c5
            clear c5
            by_cases c6 : x13_1 < (l0.length : Int)
            · rw [if_pos c6] at H
              have c6b0 : decide (x13_1 < (l0.length : Int)) = true := decide_eq_true c6
              clear c6
              by_cases c7 : x13_1 < (l1.length : Int)
              · rw [if_pos c7] at H
                have c7b0 : decide (x13_1 < (l1.length : Int)) = true := decide_eq_true c7
                clear c7
                by_cases c8 : (!(((rd_T34 l0 x13_1).f0) == ((rd_T34 l1 x13_1).f0)) || (!(((rd_T34 l0 x13_1).f1) == ((rd_T34 l1 x13_1).f1)) || (!(((rd_T34 l0 x13_1).f2) == ((rd_T34 l1 x13_1).f2)) || (!(((rd_T34 l0 x13_1).f3) == ((rd_T34 l1 x13_1).f3)) || (!(((rd_T34 l0 x13_1).f4) == ((rd_T34 l1 x13_1).f4))))))) = true
                · rw [if_pos c8] at H
                  have c8b0 : (!(((rd_T34 l0 x13_1).f0) == ((rd_T34 l1 x13_1).f0)) || (!(((rd_T34 l0 x13_1).f1) == ((rd_T34 l1 x13_1).f1)) || (!(((rd_T34 l0 x13_1).f2) == ((rd_T34 l1 x13_1).f2)) || (!(((rd_T34 l0 x13_1).f3) == ((rd_T34 l1 x13_1).f3)) || (!(((rd_T34 l0 x13_1).f4) == ((rd_T34 l1 x13_1).f4))))))) = true := c8
                  clear c8
                  obtain rfl := Option.some.inj H
                  have p326 : 0 ≤ (x13_1 : Int) := of_decide_eq_true (by first | (with_reducible assumption) | assumption)
                  have q326 : x13_1 < (l0.length : Int) := of_decide_eq_true (by first | (with_reducible assumption) | assumption)
                  obtain ⟨ad326, e326, hx326_0, hx326_1, hx326_2, hx326_3, hx326_4⟩ := at_T34 HR0.out x13_1 p326 q326
                  cases e326
                  replace p326 := eq_true p326
                  replace q326 := eq_true q326
                  have p327 : 0 ≤ (x13_1 : Int) := of_decide_eq_true (by first | (with_reducible assumption) | assumption)
                  have q327 : x13_1 < (l1.length : Int) := of_decide_eq_true (by first | (with_reducible assumption) | assumption)
                  obtain ⟨ad327, e327, hx327_0, hx327_1, hx327_2, hx327_3, hx327_4⟩ := at_T34 HR1.out x13_1 p327 q327
                  cases e327
                  replace p327 := eq_true p327
                  replace q327 := eq_true q327
                  go_wp2
                  repeat (go_quiet (fail); try go_wp2)
                  go_ret
                  exact ⟨by first | rfl | (simp; done) | (simp [*]; done), by repeat (first | exact Drawn0.refl _ | apply Drawn0.step)⟩
                · rw [if_neg c8] at H
                  have c8b0 : (!(((rd_T34 l0 x13_1).f0) == ((rd_T34 l1 x13_1).f0)) || (!(((rd_T34 l0 x13_1).f1) == ((rd_T34 l1 x13_1).f1)) || (!(((rd_T34 l0 x13_1).f2) == ((rd_T34 l1 x13_1).f2)) || (!(((rd_T34 l0 x13_1).f3) == ((rd_T34 l1 x13_1).f3)) || (!(((rd_T34 l0 x13_1).f4) == ((rd_T34 l1 x13_1).f4))))))) = false := by simpa using c8
                  clear c8
                  have H' := Aside0.mk H
                  clear H
                  have p326 : 0 ≤ (x13_1 : Int) := of_decide_eq_true (by first | (with_reducible assumption) | assumption)
                  have q326 : x13_1 < (l0.length : Int) := of_decide_eq_true (by first | (with_reducible assumption) | assumption)
                  obtain ⟨ad326, e326, hx326_0, hx326_1, hx326_2, hx326_3, hx326_4⟩ := at_T34 HR0.out x13_1 p326 q326
                  cases e326
                  replace p326 := eq_true p326
                  replace q326 := eq_true q326
                  have p327 : 0 ≤ (x13_1 : Int) := of_decide_eq_true (by first | (with_reducible assumption) | assumption)
                  have q327 : x13_1 < (l1.length : Int) := of_decide_eq_true (by first | (with_reducible assumption) | assumption)
                  obtain ⟨ad327, e327, hx327_0, hx327_1, hx327_2, hx327_3, hx327_4⟩ := at_T34 HR1.out x13_1 p327 q327
                  cases e327
                  replace p327 := eq_true p327
                  replace q327 := eq_true q327
                  go_wp2
                  repeat (go_quiet (fail); try go_wp2)
                  go_roundg k1
                  case measure => have := HK1.out; omega
                  case rel => exact ⟨(wrap64 (x13_1 + 1)), (by first | rfl | (simp; done) | (simp [*]; done)), H', ⟨by have := HK1.out; omega⟩, by repeat (first | exact Drawn0.refl _ | apply Drawn0.step)⟩
              · rw [if_neg c7] at H
                exact absurd H (by simp)
            · rw [if_neg c6] at H
              exact absurd H (by simp)
          · rw [if_neg c5] at H
            exact absurd H (by simp)
        · rw [if_neg c4] at H
          have c4b0 : decide (x13_1 < (l0.length : Int)) = false := decide_eq_false c4
          clear c4
          obtain rfl := Option.some.inj H
          go_wp2
          repeat (go_quiet (fail); try go_wp2)
          go_ret
          exact ⟨by first | rfl | (simp; done) | (simp [*]; done), by repeat (first | exact Drawn0.refl _ | apply Drawn0.step)⟩
  · rw [if_neg c3] at H
    have c3b0 : ((l0.length : Int) == (l1.length : Int)) = false := beq_eq_false_iff_ne.mpr c3
    have c3b1 : ((l0.length : Int) != (l1.length : Int)) = true := bne_iff_ne.mpr c3
    have c3b2 : (l0.length == l1.length) = false := by first | simpa using c3 | (simp at c3 ⊢; omega)
    obtain rfl := Option.some.inj H
    go_enter Try.func38, Try.ntmps38
    go_wp2
    repeat (go_quiet (fail); try go_wp2)
    go_ret
    exact ⟨by first | rfl | (simp; done) | (simp [*]; done), by repeat (first | exact Drawn0.refl _ | apply Drawn0.step)⟩

/-! ### ontimelaw43_awake: function 32 -/
def ontimelaw43_awake.f (k : Nat)  : Option (Bool) := (ceiling_Simulate.f k (([(⟨1, 9, 9, (([(⟨5, 0, 1⟩ : S68)] : List (S68)))⟩ : S49), (⟨4, 9, 9, (([(⟨5, 1, 3⟩ : S68)] : List (S68)))⟩ : S49)] : List (S49))) (([(([2] : List Int)), (([0] : List Int))] : List (List Int))) 9).bind fun bt346 => (if bt346.2 = 0 then ((ceiling_Job.f k bt346.1 (([(⟨0, 2, 3, 4, 1⟩ : S34), (⟨1, 0, 0, 5, 0⟩ : S34)] : List (S34)))).bind fun t353 => (some t353)) else (some false))
theorem ontimelaw43_awake.mono : ∀ k, LeO (ontimelaw43_awake.f k ) (ontimelaw43_awake.f (k + 1) ) := by
  intro  k
  unfold ontimelaw43_awake.f
  repeat' first
      | (with_reducible exact ceiling_Job.mono _ _ _)
      | (with_reducible exact ceiling_Simulate.mono _ _ _ _)
      | (with_reducible exact LeO.refl _)
      | (with_reducible exact LeO.none _)
      | (with_reducible refine LeO.ite ?_ ?_)
      | (with_reducible refine LeO.bind ?_ (fun _ => ?_))
      | exact ceiling_Job.mono _ _ _
      | exact ceiling_Simulate.mono _ _ _ _
      | exact LeO.none _
      | refine LeO.ite ?_ ?_
      | refine LeO.bind ?_ (fun _ => ?_)
set_option maxHeartbeats 8000000 in
set_option maxRecDepth 100000 in
theorem ontimelaw43_awake.calls (k : Nat)  (r : Bool) (w : World) (h : ontimelaw43_awake.f k  = some r) :
    Calls Try.prog 32 #[] w fun e w' => e = .returned (.bool r) ∧ Below w.heap.size w w' := by
  have hu68 := Try.underlying68
  have hu49 := Try.underlying49
  have hu34 := Try.underlying34
  have HB := Aside0.mk (Below.refl w.heap.size w)
  have H : ((ceiling_Simulate.f k (([(⟨1, 9, 9, (([(⟨5, 0, 1⟩ : S68)] : List (S68)))⟩ : S49), (⟨4, 9, 9, (([(⟨5, 1, 3⟩ : S68)] : List (S68)))⟩ : S49)] : List (S49))) (([(([2] : List Int)), (([0] : List Int))] : List (List Int))) 9).bind fun bt346 => (if bt346.2 = 0 then ((ceiling_Job.f k bt346.1 (([(⟨0, 2, 3, 4, 1⟩ : S34), (⟨1, 0, 0, 5, 0⟩ : S34)] : List (S34)))).bind fun t353 => (some t353)) else (some false))) = some r := h
  clear h
  obtain ⟨y328, hy328⟩ : ∃ y_ : List (S68), y_ = (([(⟨5, 0, 1⟩ : S68)] : List (S68))) := ⟨_, rfl⟩
  replace H : ((ceiling_Simulate.f k (([(⟨1, 9, 9, y328⟩ : S49), (⟨4, 9, 9, (([(⟨5, 1, 3⟩ : S68)] : List (S68)))⟩ : S49)] : List (S49))) (([(([2] : List Int)), (([0] : List Int))] : List (List Int))) 9).bind fun bt346 => (if bt346.2 = 0 then ((ceiling_Job.f k bt346.1 (([(⟨0, 2, 3, 4, 1⟩ : S34), (⟨1, 0, 0, 5, 0⟩ : S34)] : List (S34)))).bind fun t353 => (some t353)) else (some false))) = some r := by first | (rw [hy328]; with_reducible exact H) | (have H2_ := (Option.bind_some _ _).symm.trans H; rw [hy328]; with_reducible exact H2_) | (have H2_ := (Option.bind_some _ _).symm.trans H; with_reducible exact H2_) | with_reducible exact H | (rw [hy328]; exact H) | exact H
  have Ny328 := Aside0.mk hy328
  clear hy328
  obtain ⟨y331, hy331⟩ : ∃ y_ : List (S68), y_ = (([(⟨5, 1, 3⟩ : S68)] : List (S68))) := ⟨_, rfl⟩
  replace H : ((ceiling_Simulate.f k (([(⟨1, 9, 9, y328⟩ : S49), (⟨4, 9, 9, y331⟩ : S49)] : List (S49))) (([(([2] : List Int)), (([0] : List Int))] : List (List Int))) 9).bind fun bt346 => (if bt346.2 = 0 then ((ceiling_Job.f k bt346.1 (([(⟨0, 2, 3, 4, 1⟩ : S34), (⟨1, 0, 0, 5, 0⟩ : S34)] : List (S34)))).bind fun t353 => (some t353)) else (some false))) = some r := by first | (rw [hy331]; with_reducible exact H) | (have H2_ := (Option.bind_some _ _).symm.trans H; rw [hy331]; with_reducible exact H2_) | (have H2_ := (Option.bind_some _ _).symm.trans H; with_reducible exact H2_) | with_reducible exact H | (rw [hy331]; exact H) | exact H
  have Ny331 := Aside0.mk hy331
  clear hy331
  obtain ⟨y334, hy334⟩ : ∃ y_ : List (S49), y_ = (([(⟨1, 9, 9, y328⟩ : S49), (⟨4, 9, 9, y331⟩ : S49)] : List (S49))) := ⟨_, rfl⟩
  replace H : ((ceiling_Simulate.f k y334 (([(([2] : List Int)), (([0] : List Int))] : List (List Int))) 9).bind fun bt346 => (if bt346.2 = 0 then ((ceiling_Job.f k bt346.1 (([(⟨0, 2, 3, 4, 1⟩ : S34), (⟨1, 0, 0, 5, 0⟩ : S34)] : List (S34)))).bind fun t353 => (some t353)) else (some false))) = some r := by first | (rw [hy334]; with_reducible exact H) | (have H2_ := (Option.bind_some _ _).symm.trans H; rw [hy334]; with_reducible exact H2_) | (have H2_ := (Option.bind_some _ _).symm.trans H; with_reducible exact H2_) | with_reducible exact H | (rw [hy334]; exact H) | exact H
  have Ny334 := Aside0.mk hy334
  clear hy334
  obtain ⟨y337, hy337⟩ : ∃ y_ : List Int, y_ = (([2] : List Int)) := ⟨_, rfl⟩
  replace H : ((ceiling_Simulate.f k y334 (([y337, (([0] : List Int))] : List (List Int))) 9).bind fun bt346 => (if bt346.2 = 0 then ((ceiling_Job.f k bt346.1 (([(⟨0, 2, 3, 4, 1⟩ : S34), (⟨1, 0, 0, 5, 0⟩ : S34)] : List (S34)))).bind fun t353 => (some t353)) else (some false))) = some r := by first | (rw [hy337]; with_reducible exact H) | (have H2_ := (Option.bind_some _ _).symm.trans H; rw [hy337]; with_reducible exact H2_) | (have H2_ := (Option.bind_some _ _).symm.trans H; with_reducible exact H2_) | with_reducible exact H | (rw [hy337]; exact H) | exact H
  have Ny337 := Aside0.mk hy337
  clear hy337
  obtain ⟨y340, hy340⟩ : ∃ y_ : List Int, y_ = (([0] : List Int)) := ⟨_, rfl⟩
  replace H : ((ceiling_Simulate.f k y334 (([y337, y340] : List (List Int))) 9).bind fun bt346 => (if bt346.2 = 0 then ((ceiling_Job.f k bt346.1 (([(⟨0, 2, 3, 4, 1⟩ : S34), (⟨1, 0, 0, 5, 0⟩ : S34)] : List (S34)))).bind fun t353 => (some t353)) else (some false))) = some r := by first | (rw [hy340]; with_reducible exact H) | (have H2_ := (Option.bind_some _ _).symm.trans H; rw [hy340]; with_reducible exact H2_) | (have H2_ := (Option.bind_some _ _).symm.trans H; with_reducible exact H2_) | with_reducible exact H | (rw [hy340]; exact H) | exact H
  have Ny340 := Aside0.mk hy340
  clear hy340
  obtain ⟨y343, hy343⟩ : ∃ y_ : List (List Int), y_ = (([y337, y340] : List (List Int))) := ⟨_, rfl⟩
  replace H : ((ceiling_Simulate.f k y334 y343 9).bind fun bt346 => (if bt346.2 = 0 then ((ceiling_Job.f k bt346.1 (([(⟨0, 2, 3, 4, 1⟩ : S34), (⟨1, 0, 0, 5, 0⟩ : S34)] : List (S34)))).bind fun t353 => (some t353)) else (some false))) = some r := by first | (rw [hy343]; with_reducible exact H) | (have H2_ := (Option.bind_some _ _).symm.trans H; rw [hy343]; with_reducible exact H2_) | (have H2_ := (Option.bind_some _ _).symm.trans H; with_reducible exact H2_) | with_reducible exact H | (rw [hy343]; exact H) | exact H
  have Ny343 := Aside0.mk hy343
  clear hy343
  replace H := Option.bind_eq_some_iff.mp H
  obtain ⟨⟨t346, t347⟩, A10, H⟩ := H
  replace H : (if t347 = 0 then ((ceiling_Job.f k t346 (([(⟨0, 2, 3, 4, 1⟩ : S34), (⟨1, 0, 0, 5, 0⟩ : S34)] : List (S34)))).bind fun t353 => (some t353)) else (some false)) = some r := H
  have A1 := Aside0.mk A10
  clear A10
  by_cases c2 : t347 = 0
  · rw [if_pos c2] at H
    have c2b0 : (t347 == 0) = true := beq_iff_eq.mpr c2
    have c2b1 : (t347 != 0) = false := bne_eq_false_iff_eq.mpr c2
    clear c2
    obtain ⟨y350, hy350⟩ : ∃ y_ : List (S34), y_ = (([(⟨0, 2, 3, 4, 1⟩ : S34), (⟨1, 0, 0, 5, 0⟩ : S34)] : List (S34))) := ⟨_, rfl⟩
    replace H : ((ceiling_Job.f k t346 y350).bind fun t353 => (some t353)) = some r := by first | (rw [hy350]; with_reducible exact H) | (have H2_ := (Option.bind_some _ _).symm.trans H; rw [hy350]; with_reducible exact H2_) | (have H2_ := (Option.bind_some _ _).symm.trans H; with_reducible exact H2_) | with_reducible exact H | (rw [hy350]; exact H) | exact H
    have Ny350 := Aside0.mk hy350
    clear hy350
    replace H := Option.bind_eq_some_iff.mp H
    obtain ⟨t353, A30, H⟩ := H
    replace H : (some t353) = some r := H
    have A3 := Aside0.mk A30
    clear A30
    obtain rfl := Option.some.inj H
    go_enter Try.func32, Try.ntmps32
    go_wp2_with (first | ((with_reducible refine gate_dst (N := 5) rfl ?_); (try (refine gate_guard (by rfl) ?_; dsimp only)); refine Kd.R_lit k68 _ 68 ?hg (N := 5) ?hd (xs := ([(⟨5, 0, 1⟩ : S68)] : List (S68))) (inner := [.int .i64 5, .int .i64 0, .int .i64 1]) (ok := fun _ => True) (okp := fun _ => True) ?hr ?hp (fun _ hk => hk) trivial (Below.refl _ _) (Nat.le_refl _) (by simp) ?_; (case hd => rfl); (case hg => rfl); (case hr => first | (go_simp; done) | (go_simp; rfl)); (case hp => exact (Reps.c3 (show Kd.M k68 _ _ _ (⟨5, 0, 1⟩ : S68) [.int .i64 5, .int .i64 0, .int .i64 1] from (k68_mkM _ _ _ (⟨5, 0, 1⟩ : S68) )) (Reps.none _ _))); intro v329 w4 ho5 hb hg_ hnew_; clear hg_ hnew_; (first | rw [← Ny328.out] at ho5 | (simp only [Int.reduceToNat] at ho5; rw [← Ny328.out] at ho5)); have n0_ := Aside0.mk (Kd.R_lower ho5 (below_size (by repeat (first | (with_reducible first | exact HB.out | apply below_alloc | apply pw_below_drewN | apply below_drew1) | exact HB.out)))); have n1_ := Aside0.mk (below_step (by repeat (first | (with_reducible first | exact HB.out | apply below_alloc | apply pw_below_drewN | apply below_drew1) | exact HB.out)) hb); clear HB; have HO330 := n0_; have HB := n1_; clear n0_ n1_; clear hb ho5; obtain ⟨Ao6, co6, eo6⟩ := Kd.R_slice HO330.out; subst eo6) | ((with_reducible refine gate_dst (N := 8) rfl ?_); (try (refine gate_guard (by rfl) ?_; dsimp only)); refine Kd.R_lit k68 _ 68 ?hg (N := 8) ?hd (xs := ([(⟨5, 1, 3⟩ : S68)] : List (S68))) (inner := [.int .i64 5, .int .i64 1, .int .i64 3]) (ok := fun _ => True) (okp := fun _ => True) ?hr ?hp (fun _ hk => hk) trivial (Below.refl _ _) (Nat.le_refl _) (by simp) ?_; (case hd => rfl); (case hg => rfl); (case hr => first | (go_simp; done) | (go_simp; rfl)); (case hp => exact (Reps.c3 (show Kd.M k68 _ _ _ (⟨5, 1, 3⟩ : S68) [.int .i64 5, .int .i64 1, .int .i64 3] from (k68_mkM _ _ _ (⟨5, 1, 3⟩ : S68) )) (Reps.none _ _))); intro v332 w7 ho8 hb hg_ hnew_; clear hg_ hnew_; (first | rw [← Ny331.out] at ho8 | (simp only [Int.reduceToNat] at ho8; rw [← Ny331.out] at ho8)); have n0_ := Aside0.mk (Kd.R_elder' (by (with_reducible repeat (first | apply Kd.R_alloc | apply Kd.R_drewN | apply Kd.R_drew)); exact HO330.out) (Kd.R_base ho8) hb); have n1_ := Aside0.mk (Kd.R_lower (Kd.R_new' ho8 (Kd.R_lt (by (with_reducible repeat (first | apply Kd.R_alloc | apply Kd.R_drewN | apply Kd.R_drew)); exact HO330.out))) (below_size (by repeat (first | (with_reducible first | exact HB.out | apply below_alloc | apply pw_below_drewN | apply below_drew1) | exact HB.out)))); have n2_ := Aside0.mk (below_step (by repeat (first | (with_reducible first | exact HB.out | apply below_alloc | apply pw_below_drewN | apply below_drew1) | exact HB.out)) hb); clear HO330; clear HB; have HO330 := n0_; have HO333 := n1_; have HB := n2_; clear n0_ n1_ n2_; clear hb ho8; obtain ⟨Ao9, co9, eo9⟩ := Kd.R_slice HO333.out; subst eo9) | ((with_reducible refine gate_dst (N := 10) rfl ?_); (try (refine gate_guard (by rfl) ?_; dsimp only)); refine Kd.N_lit k49 _ 49 ?hg (N' := 10) ?hd (xs := ([(⟨1, 9, 9, y328⟩ : S49), (⟨4, 9, 9, y331⟩ : S49)] : List (S49))) (inner := [.int .i64 1, .int .i64 9, .int .i64 9, .slice Ao6 y328.length co6, .int .i64 4, .int .i64 9, .int .i64 9, .slice Ao9 y331.length co9]) (ok := (fun _ => True)) (okp := (fun _ => True)) ?hr ?hp (fun _ hk => hk) ((show ∀ k_, w7.heap.size ≤ k_ → (fun _ => True) k_ from fun k_ hk => trivial) _ (Nat.le_refl _)) (Below.refl _ _) (Nat.le_refl _) (by simp) ?_; (case hd => rfl); (case hg => rfl); (case hr => first | (go_simp; done) | (go_simp; rfl)); (case hp => exact (Reps.c4 (show Kd.FK k49 _ _ (⟨1, 9, 9, y328⟩ : S49) [.int .i64 1, .int .i64 9, .int .i64 9, .slice Ao6 y328.length co6] from (k49_mkF _ _ (⟨1, 9, 9, y328⟩ : S49) (Kd.R_reads' (Kd.R_mono (ok' := (fun _ => True)) (HO330.out) (fun k_ hk => trivial))).2.1 (Kd.R_F (Kd.R_mono (ok' := (fun _ => True)) (HO330.out) (fun k_ hk => trivial))))) (Reps.c4 (show Kd.FK k49 _ _ (⟨4, 9, 9, y331⟩ : S49) [.int .i64 4, .int .i64 9, .int .i64 9, .slice Ao9 y331.length co9] from (k49_mkF _ _ (⟨4, 9, 9, y331⟩ : S49) (Kd.R_reads' (Kd.R_mono (ok' := (fun _ => True)) (HO333.out) (fun k_ hk => trivial))).2.1 (Kd.R_F (Kd.R_mono (ok' := (fun _ => True)) (HO333.out) (fun k_ hk => trivial))))) (Reps.none _ _)))); intro v335 w10 ho11 hb hg_ hnew_; clear hg_ hnew_; (first | rw [← Ny334.out] at ho11 | (simp only [Int.reduceToNat] at ho11; rw [← Ny334.out] at ho11)); have n0_ := Aside0.mk (Kd.N_lower ho11 (below_size (by repeat (first | (with_reducible first | exact HB.out | apply below_alloc | apply pw_below_drewN | apply below_drew1) | exact HB.out)))); have n1_ := Aside0.mk (below_step (by repeat (first | (with_reducible first | exact HB.out | apply below_alloc | apply pw_below_drewN | apply below_drew1) | exact HB.out)) hb); clear HB; clear HO330; clear HO333; have HO336 := n0_; have HB := n1_; clear n0_ n1_; clear hb ho11) | ((with_reducible refine gate_dst (N := 13) rfl ?_); (try (refine gate_guard (by rfl) ?_; dsimp only)); refine Kd.R_lit (Kd.int .i64) _ 3 ?hg (N := 13) ?hd (xs := ([2] : List Int)) (inner := [.int .i64 2]) (ok := fun _ => True) (okp := fun _ => True) ?hr ?hp (fun _ hk => hk) trivial (Below.refl _ _) (Nat.le_refl _) (by simp) ?_; (case hd => rfl); (case hg => rfl); (case hr => first | (go_simp; done) | (go_simp; rfl)); (case hp => exact (Reps.one (show Kd.M (Kd.int .i64) _ _ _ 2 [.int .i64 2] from rfl) (Reps.none _ _))); intro v338 w12 ho13 hb hg_ hnew_; clear hg_ hnew_; (first | rw [← Ny337.out] at ho13 | (simp only [Int.reduceToNat] at ho13; rw [← Ny337.out] at ho13)); have n0_ := Aside0.mk (Kd.N_elder' (by (with_reducible repeat (first | apply Kd.N_alloc | apply Kd.N_drewN | apply Kd.N_drew)); exact HO336.out) (Kd.R_base ho13) hb); have n1_ := Aside0.mk (Kd.R_lower ho13 (below_size (by repeat (first | (with_reducible first | exact HB.out | apply below_alloc | apply pw_below_drewN | apply below_drew1) | exact HB.out)))); have n2_ := Aside0.mk (below_step (by repeat (first | (with_reducible first | exact HB.out | apply below_alloc | apply pw_below_drewN | apply below_drew1) | exact HB.out)) hb); clear HO336; clear HB; have HO336 := n0_; have HO339 := n1_; have HB := n2_; clear n0_ n1_ n2_; clear hb ho13) | ((with_reducible refine gate_dst (N := 14) rfl ?_); (try (refine gate_guard (by rfl) ?_; dsimp only)); refine Kd.R_lit (Kd.int .i64) _ 3 ?hg (N := 14) ?hd (xs := ([0] : List Int)) (inner := [.int .i64 0]) (ok := fun _ => True) (okp := fun _ => True) ?hr ?hp (fun _ hk => hk) trivial (Below.refl _ _) (Nat.le_refl _) (by simp) ?_; (case hd => rfl); (case hg => rfl); (case hr => first | (go_simp; done) | (go_simp; rfl)); (case hp => exact (Reps.one (show Kd.M (Kd.int .i64) _ _ _ 0 [.int .i64 0] from rfl) (Reps.none _ _))); intro v341 w14 ho15 hb hg_ hnew_; clear hg_ hnew_; (first | rw [← Ny340.out] at ho15 | (simp only [Int.reduceToNat] at ho15; rw [← Ny340.out] at ho15)); have n0_ := Aside0.mk (Kd.N_elder' (by (with_reducible repeat (first | apply Kd.N_alloc | apply Kd.N_drewN | apply Kd.N_drew)); exact HO336.out) (Kd.R_base ho15) hb); have n1_ := Aside0.mk (Kd.R_elder' (by (with_reducible repeat (first | apply Kd.R_alloc | apply Kd.R_drewN | apply Kd.R_drew)); exact HO339.out) (Kd.R_base ho15) hb); have n2_ := Aside0.mk (Kd.R_lower (Kd.R_new' ho15 (Kd.R_lt (by (with_reducible repeat (first | apply Kd.R_alloc | apply Kd.R_drewN | apply Kd.R_drew)); exact HO339.out))) (below_size (by repeat (first | (with_reducible first | exact HB.out | apply below_alloc | apply pw_below_drewN | apply below_drew1) | exact HB.out)))); have n3_ := Aside0.mk (below_step (by repeat (first | (with_reducible first | exact HB.out | apply below_alloc | apply pw_below_drewN | apply below_drew1) | exact HB.out)) hb); clear HO336; clear HO339; clear HB; have HO336 := n0_; have HO339 := n1_; have HO342 := n2_; have HB := n3_; clear n0_ n1_ n2_ n3_; clear hb ho15; obtain ⟨Ao16, co16, eo16⟩ := Kd.R_slice HO339.out; subst eo16; obtain ⟨Ao17, co17, eo17⟩ := Kd.R_slice HO342.out; subst eo17) | ((with_reducible refine gate_dst (N := 15) rfl ?_); (try (refine gate_guard (by rfl) ?_; dsimp only)); refine Kd.N_lit (Kd.slice 3 (Kd.int .i64)) _ 38 ?hg (N' := 15) ?hd (xs := ([y337, y340] : List (List Int))) (inner := [.slice Ao16 y337.length co16, .slice Ao17 y340.length co17]) (ok := (fun k_ => some k_ ≠ (v335 : Value).ownBlock)) (okp := (fun k_ => some k_ ≠ (v335 : Value).ownBlock)) ?hr ?hp (fun _ hk => hk) ((show ∀ k_, w14.heap.size ≤ k_ → (fun k_ => some k_ ≠ (v335 : Value).ownBlock) k_ from fun k_ hk => Kd.fresh' (Kd.N_lt (by (with_reducible repeat (first | apply Kd.N_alloc | apply Kd.N_drewN | apply Kd.N_drew)); exact HO336.out)) k_ hk) _ (Nat.le_refl _)) (Below.refl _ _) (Nat.le_refl _) (by simp) ?_; (case hd => rfl); (case hg => rfl); (case hr => first | (go_simp; done) | (go_simp; rfl)); (case hp => exact (Reps.one (show Kd.FK (Kd.slice 3 (Kd.int .i64)) _ _ y337 [.slice Ao16 y337.length co16] from (Kd.FK_slice_mk (Kd.R_reads' (Kd.R_mono (ok' := (fun k_ => some k_ ≠ (v335 : Value).ownBlock)) (Kd.R_apart' (HO339.out) (Kd.N_typed HO336.out) (by decide)) (fun k_ hk => hk.2))).2.1 (Kd.R_F (Kd.R_mono (ok' := (fun k_ => some k_ ≠ (v335 : Value).ownBlock)) (Kd.R_apart' (HO339.out) (Kd.N_typed HO336.out) (by decide)) (fun k_ hk => hk.2))))) (Reps.one (show Kd.FK (Kd.slice 3 (Kd.int .i64)) _ _ y340 [.slice Ao17 y340.length co17] from (Kd.FK_slice_mk (Kd.R_reads' (Kd.R_mono (ok' := (fun k_ => some k_ ≠ (v335 : Value).ownBlock)) (Kd.R_apart' (HO342.out) (Kd.N_typed HO336.out) (by decide)) (fun k_ hk => hk.2))).2.1 (Kd.R_F (Kd.R_mono (ok' := (fun k_ => some k_ ≠ (v335 : Value).ownBlock)) (Kd.R_apart' (HO342.out) (Kd.N_typed HO336.out) (by decide)) (fun k_ hk => hk.2))))) (Reps.none _ _)))); intro v344 w18 ho19 hb hg_ hnew_; clear hg_ hnew_; (first | rw [← Ny343.out] at ho19 | (simp only [Int.reduceToNat] at ho19; rw [← Ny343.out] at ho19)); have n0_ := Aside0.mk (Kd.N_elder' (by (with_reducible repeat (first | apply Kd.N_alloc | apply Kd.N_drewN | apply Kd.N_drew)); exact HO336.out) (Kd.N_base ho19) hb); have n1_ := Aside0.mk (Kd.N_lower ho19 (below_size (by repeat (first | (with_reducible first | exact HB.out | apply below_alloc | apply pw_below_drewN | apply below_drew1) | exact HB.out)))); have n2_ := Aside0.mk (below_step (by repeat (first | (with_reducible first | exact HB.out | apply below_alloc | apply pw_below_drewN | apply below_drew1) | exact HB.out)) hb); clear HO336; clear HB; clear HO339; clear HO342; have HO336 := n0_; have HO345 := n1_; have HB := n2_; clear n0_ n1_ n2_; clear hb ho19; obtain ⟨Ao20, co20, eo20⟩ := Kd.N_slice HO336.out; subst eo20; obtain ⟨Ao21, co21, eo21⟩ := Kd.N_slice HO345.out; subst eo21) | ((with_reducible refine gate_callee (f := 21) rfl ?_); refine goesL_ (some 16) rfl rfl Try.func21 (by kernel_rfl) rfl #[.slice Ao20 y334.length co20, .slice Ao21 y343.length co21, .int .i64 9] rfl (by (try simp only [List.map_toArray, List.map_cons, List.map_nil]); first | done | rfl | (simp only [List.length_drop, List.length_take]; rfl)) ?_; (with_reducible refine (ceiling_Simulate.calls k _ _ y334 _ _ y343 9 t346 t347 _ ?side1 ?side2 ?side3 ?side4 A1.out).mono ?_); (case side1 => repeat (first | exact (Kd.N_reads' HO336.out).2.2 | (with_reducible refine Kd.C_alloc ?_ _) | (with_reducible refine Kd.C_drewN ?_ _) | (with_reducible refine Kd.C_drew ?_))); (case side2 => exact (Kd.N_reads' HO336.out).2.1); (case side3 => repeat (first | exact (Kd.N_reads' HO345.out).2.2 | (with_reducible refine Kd.C_alloc ?_ _) | (with_reducible refine Kd.C_drewN ?_ _) | (with_reducible refine Kd.C_drew ?_))); (case side4 => exact (Kd.N_reads' HO345.out).2.1); rintro e w22 ⟨v348, rfl, ho0, hb⟩; refine ⟨_, rfl, ?_⟩; have n0_ := Aside0.mk (Kd.N_elder' (by (with_reducible repeat (first | apply Kd.N_alloc | apply Kd.N_drewN | apply Kd.N_drew)); exact HO336.out) (Kd.R_base ho0) hb); have n1_ := Aside0.mk (Kd.N_elder' (by (with_reducible repeat (first | apply Kd.N_alloc | apply Kd.N_drewN | apply Kd.N_drew)); exact HO345.out) (Kd.R_base ho0) hb); have n2_ := Aside0.mk (Kd.R_lower ho0 (below_size (by repeat (first | (with_reducible first | exact HB.out | apply below_alloc | apply pw_below_drewN | apply below_drew1) | exact HB.out)))); have n3_ := Aside0.mk (below_step (by repeat (first | (with_reducible first | exact HB.out | apply below_alloc | apply pw_below_drewN | apply below_drew1) | exact HB.out)) hb); clear HO336; clear HO345; clear HB; have HO336 := n0_; have HO345 := n1_; have HO349 := n2_; have HB := n3_; clear n0_ n1_ n2_ n3_; (try clear hb); (try clear hb2); (try clear hk); (try clear hi); (try clear ho0)) | ((with_reducible refine gate_dst (N := 25) rfl ?_); (try (refine gate_guard (by rfl) ?_; dsimp only)); refine Kd.R_lit k34 _ 34 ?hg (N := 25) ?hd (xs := ([(⟨0, 2, 3, 4, 1⟩ : S34), (⟨1, 0, 0, 5, 0⟩ : S34)] : List (S34))) (inner := [.int .i64 0, .int .i64 2, .int .i64 3, .int .i64 4, .int .i64 1, .int .i64 1, .int .i64 0, .int .i64 0, .int .i64 5, .int .i64 0]) (ok := fun _ => True) (okp := fun _ => True) ?hr ?hp (fun _ hk => hk) trivial (Below.refl _ _) (Nat.le_refl _) (by simp) ?_; (case hd => rfl); (case hg => rfl); (case hr => first | (go_simp; done) | (go_simp; rfl)); (case hp => exact (Reps.c5 (show Kd.M k34 _ _ _ (⟨0, 2, 3, 4, 1⟩ : S34) [.int .i64 0, .int .i64 2, .int .i64 3, .int .i64 4, .int .i64 1] from (k34_mkM _ _ _ (⟨0, 2, 3, 4, 1⟩ : S34) )) (Reps.c5 (show Kd.M k34 _ _ _ (⟨1, 0, 0, 5, 0⟩ : S34) [.int .i64 1, .int .i64 0, .int .i64 0, .int .i64 5, .int .i64 0] from (k34_mkM _ _ _ (⟨1, 0, 0, 5, 0⟩ : S34) )) (Reps.none _ _)))); intro v351 w23 ho24 hb hg_ hnew_; clear hg_ hnew_; (first | rw [← Ny350.out] at ho24 | (simp only [Int.reduceToNat] at ho24; rw [← Ny350.out] at ho24)); have n0_ := Aside0.mk (Kd.N_elder' (by (with_reducible repeat (first | apply Kd.N_alloc | apply Kd.N_drewN | apply Kd.N_drew)); exact HO336.out) (Kd.R_base ho24) hb); have n1_ := Aside0.mk (Kd.N_elder' (by (with_reducible repeat (first | apply Kd.N_alloc | apply Kd.N_drewN | apply Kd.N_drew)); exact HO345.out) (Kd.R_base ho24) hb); have n2_ := Aside0.mk (Kd.R_elder' (by (with_reducible repeat (first | apply Kd.R_alloc | apply Kd.R_drewN | apply Kd.R_drew)); exact HO349.out) (Kd.R_base ho24) hb); have n3_ := Aside0.mk (Kd.R_lower (Kd.R_new' ho24 (Kd.R_lt (by (with_reducible repeat (first | apply Kd.R_alloc | apply Kd.R_drewN | apply Kd.R_drew)); exact HO349.out))) (below_size (by repeat (first | (with_reducible first | exact HB.out | apply below_alloc | apply pw_below_drewN | apply below_drew1) | exact HB.out)))); have n4_ := Aside0.mk (below_step (by repeat (first | (with_reducible first | exact HB.out | apply below_alloc | apply pw_below_drewN | apply below_drew1) | exact HB.out)) hb); clear HO336; clear HO345; clear HO349; clear HB; have HO336 := n0_; have HO345 := n1_; have HO349 := n2_; have HO352 := n3_; have HB := n4_; clear n0_ n1_ n2_ n3_ n4_; clear hb ho24; obtain ⟨Ao25, co25, eo25⟩ := Kd.R_slice HO349.out; subst eo25; obtain ⟨Ao26, co26, eo26⟩ := Kd.R_slice HO352.out; subst eo26) | (go_at_call 38; (with_reducible refine (ceiling_Job.calls k _ _ t346 _ _ y350 t353 _ ?side1 ?side2 ?side3 ?side4 A3.out).mono ?_); (case side1 => repeat (first | exact (Kd.R_reads' HO349.out).2.2 | (with_reducible refine Kd.C_alloc ?_ _) | (with_reducible refine Kd.C_drewN ?_ _) | (with_reducible refine Kd.C_drew ?_))); (case side2 => exact (Kd.R_reads' HO349.out).2.1); (case side3 => repeat (first | exact (Kd.R_reads' HO352.out).2.2 | (with_reducible refine Kd.C_alloc ?_ _) | (with_reducible refine Kd.C_drewN ?_ _) | (with_reducible refine Kd.C_drew ?_))); (case side4 => exact (Kd.R_reads' HO352.out).2.1); rintro e w' ⟨rfl, ⟨nd, rfl⟩⟩))
    go_ret
    exact ⟨by first | rfl | (simp [errW_none, errW_some] <;> rfl) | (simp [*, errW_none, errW_some] <;> rfl), by repeat (first | (with_reducible first | exact HB.out | apply below_alloc | apply pw_below_drewN | apply below_drew1) | exact HB.out)⟩
  · rw [if_neg c2] at H
    have c2b0 : (t347 == 0) = false := beq_eq_false_iff_ne.mpr c2
    have c2b1 : (t347 != 0) = true := bne_iff_ne.mpr c2
    obtain rfl := Option.some.inj H
    go_enter Try.func32, Try.ntmps32
    go_wp2_with (first | ((with_reducible refine gate_dst (N := 5) rfl ?_); (try (refine gate_guard (by rfl) ?_; dsimp only)); refine Kd.R_lit k68 _ 68 ?hg (N := 5) ?hd (xs := ([(⟨5, 0, 1⟩ : S68)] : List (S68))) (inner := [.int .i64 5, .int .i64 0, .int .i64 1]) (ok := fun _ => True) (okp := fun _ => True) ?hr ?hp (fun _ hk => hk) trivial (Below.refl _ _) (Nat.le_refl _) (by simp) ?_; (case hd => rfl); (case hg => rfl); (case hr => first | (go_simp; done) | (go_simp; rfl)); (case hp => exact (Reps.c3 (show Kd.M k68 _ _ _ (⟨5, 0, 1⟩ : S68) [.int .i64 5, .int .i64 0, .int .i64 1] from (k68_mkM _ _ _ (⟨5, 0, 1⟩ : S68) )) (Reps.none _ _))); intro v329 w27 ho28 hb hg_ hnew_; clear hg_ hnew_; (first | rw [← Ny328.out] at ho28 | (simp only [Int.reduceToNat] at ho28; rw [← Ny328.out] at ho28)); have n0_ := Aside0.mk (Kd.R_lower ho28 (below_size (by repeat (first | (with_reducible first | exact HB.out | apply below_alloc | apply pw_below_drewN | apply below_drew1) | exact HB.out)))); have n1_ := Aside0.mk (below_step (by repeat (first | (with_reducible first | exact HB.out | apply below_alloc | apply pw_below_drewN | apply below_drew1) | exact HB.out)) hb); clear HB; have HO330 := n0_; have HB := n1_; clear n0_ n1_; clear hb ho28; obtain ⟨Ao29, co29, eo29⟩ := Kd.R_slice HO330.out; subst eo29) | ((with_reducible refine gate_dst (N := 8) rfl ?_); (try (refine gate_guard (by rfl) ?_; dsimp only)); refine Kd.R_lit k68 _ 68 ?hg (N := 8) ?hd (xs := ([(⟨5, 1, 3⟩ : S68)] : List (S68))) (inner := [.int .i64 5, .int .i64 1, .int .i64 3]) (ok := fun _ => True) (okp := fun _ => True) ?hr ?hp (fun _ hk => hk) trivial (Below.refl _ _) (Nat.le_refl _) (by simp) ?_; (case hd => rfl); (case hg => rfl); (case hr => first | (go_simp; done) | (go_simp; rfl)); (case hp => exact (Reps.c3 (show Kd.M k68 _ _ _ (⟨5, 1, 3⟩ : S68) [.int .i64 5, .int .i64 1, .int .i64 3] from (k68_mkM _ _ _ (⟨5, 1, 3⟩ : S68) )) (Reps.none _ _))); intro v332 w30 ho31 hb hg_ hnew_; clear hg_ hnew_; (first | rw [← Ny331.out] at ho31 | (simp only [Int.reduceToNat] at ho31; rw [← Ny331.out] at ho31)); have n0_ := Aside0.mk (Kd.R_elder' (by (with_reducible repeat (first | apply Kd.R_alloc | apply Kd.R_drewN | apply Kd.R_drew)); exact HO330.out) (Kd.R_base ho31) hb); have n1_ := Aside0.mk (Kd.R_lower (Kd.R_new' ho31 (Kd.R_lt (by (with_reducible repeat (first | apply Kd.R_alloc | apply Kd.R_drewN | apply Kd.R_drew)); exact HO330.out))) (below_size (by repeat (first | (with_reducible first | exact HB.out | apply below_alloc | apply pw_below_drewN | apply below_drew1) | exact HB.out)))); have n2_ := Aside0.mk (below_step (by repeat (first | (with_reducible first | exact HB.out | apply below_alloc | apply pw_below_drewN | apply below_drew1) | exact HB.out)) hb); clear HO330; clear HB; have HO330 := n0_; have HO333 := n1_; have HB := n2_; clear n0_ n1_ n2_; clear hb ho31; obtain ⟨Ao32, co32, eo32⟩ := Kd.R_slice HO333.out; subst eo32) | ((with_reducible refine gate_dst (N := 10) rfl ?_); (try (refine gate_guard (by rfl) ?_; dsimp only)); refine Kd.N_lit k49 _ 49 ?hg (N' := 10) ?hd (xs := ([(⟨1, 9, 9, y328⟩ : S49), (⟨4, 9, 9, y331⟩ : S49)] : List (S49))) (inner := [.int .i64 1, .int .i64 9, .int .i64 9, .slice Ao29 y328.length co29, .int .i64 4, .int .i64 9, .int .i64 9, .slice Ao32 y331.length co32]) (ok := (fun _ => True)) (okp := (fun _ => True)) ?hr ?hp (fun _ hk => hk) ((show ∀ k_, w30.heap.size ≤ k_ → (fun _ => True) k_ from fun k_ hk => trivial) _ (Nat.le_refl _)) (Below.refl _ _) (Nat.le_refl _) (by simp) ?_; (case hd => rfl); (case hg => rfl); (case hr => first | (go_simp; done) | (go_simp; rfl)); (case hp => exact (Reps.c4 (show Kd.FK k49 _ _ (⟨1, 9, 9, y328⟩ : S49) [.int .i64 1, .int .i64 9, .int .i64 9, .slice Ao29 y328.length co29] from (k49_mkF _ _ (⟨1, 9, 9, y328⟩ : S49) (Kd.R_reads' (Kd.R_mono (ok' := (fun _ => True)) (HO330.out) (fun k_ hk => trivial))).2.1 (Kd.R_F (Kd.R_mono (ok' := (fun _ => True)) (HO330.out) (fun k_ hk => trivial))))) (Reps.c4 (show Kd.FK k49 _ _ (⟨4, 9, 9, y331⟩ : S49) [.int .i64 4, .int .i64 9, .int .i64 9, .slice Ao32 y331.length co32] from (k49_mkF _ _ (⟨4, 9, 9, y331⟩ : S49) (Kd.R_reads' (Kd.R_mono (ok' := (fun _ => True)) (HO333.out) (fun k_ hk => trivial))).2.1 (Kd.R_F (Kd.R_mono (ok' := (fun _ => True)) (HO333.out) (fun k_ hk => trivial))))) (Reps.none _ _)))); intro v335 w33 ho34 hb hg_ hnew_; clear hg_ hnew_; (first | rw [← Ny334.out] at ho34 | (simp only [Int.reduceToNat] at ho34; rw [← Ny334.out] at ho34)); have n0_ := Aside0.mk (Kd.N_lower ho34 (below_size (by repeat (first | (with_reducible first | exact HB.out | apply below_alloc | apply pw_below_drewN | apply below_drew1) | exact HB.out)))); have n1_ := Aside0.mk (below_step (by repeat (first | (with_reducible first | exact HB.out | apply below_alloc | apply pw_below_drewN | apply below_drew1) | exact HB.out)) hb); clear HB; clear HO330; clear HO333; have HO336 := n0_; have HB := n1_; clear n0_ n1_; clear hb ho34) | ((with_reducible refine gate_dst (N := 13) rfl ?_); (try (refine gate_guard (by rfl) ?_; dsimp only)); refine Kd.R_lit (Kd.int .i64) _ 3 ?hg (N := 13) ?hd (xs := ([2] : List Int)) (inner := [.int .i64 2]) (ok := fun _ => True) (okp := fun _ => True) ?hr ?hp (fun _ hk => hk) trivial (Below.refl _ _) (Nat.le_refl _) (by simp) ?_; (case hd => rfl); (case hg => rfl); (case hr => first | (go_simp; done) | (go_simp; rfl)); (case hp => exact (Reps.one (show Kd.M (Kd.int .i64) _ _ _ 2 [.int .i64 2] from rfl) (Reps.none _ _))); intro v338 w35 ho36 hb hg_ hnew_; clear hg_ hnew_; (first | rw [← Ny337.out] at ho36 | (simp only [Int.reduceToNat] at ho36; rw [← Ny337.out] at ho36)); have n0_ := Aside0.mk (Kd.N_elder' (by (with_reducible repeat (first | apply Kd.N_alloc | apply Kd.N_drewN | apply Kd.N_drew)); exact HO336.out) (Kd.R_base ho36) hb); have n1_ := Aside0.mk (Kd.R_lower ho36 (below_size (by repeat (first | (with_reducible first | exact HB.out | apply below_alloc | apply pw_below_drewN | apply below_drew1) | exact HB.out)))); have n2_ := Aside0.mk (below_step (by repeat (first | (with_reducible first | exact HB.out | apply below_alloc | apply pw_below_drewN | apply below_drew1) | exact HB.out)) hb); clear HO336; clear HB; have HO336 := n0_; have HO339 := n1_; have HB := n2_; clear n0_ n1_ n2_; clear hb ho36) | ((with_reducible refine gate_dst (N := 14) rfl ?_); (try (refine gate_guard (by rfl) ?_; dsimp only)); refine Kd.R_lit (Kd.int .i64) _ 3 ?hg (N := 14) ?hd (xs := ([0] : List Int)) (inner := [.int .i64 0]) (ok := fun _ => True) (okp := fun _ => True) ?hr ?hp (fun _ hk => hk) trivial (Below.refl _ _) (Nat.le_refl _) (by simp) ?_; (case hd => rfl); (case hg => rfl); (case hr => first | (go_simp; done) | (go_simp; rfl)); (case hp => exact (Reps.one (show Kd.M (Kd.int .i64) _ _ _ 0 [.int .i64 0] from rfl) (Reps.none _ _))); intro v341 w37 ho38 hb hg_ hnew_; clear hg_ hnew_; (first | rw [← Ny340.out] at ho38 | (simp only [Int.reduceToNat] at ho38; rw [← Ny340.out] at ho38)); have n0_ := Aside0.mk (Kd.N_elder' (by (with_reducible repeat (first | apply Kd.N_alloc | apply Kd.N_drewN | apply Kd.N_drew)); exact HO336.out) (Kd.R_base ho38) hb); have n1_ := Aside0.mk (Kd.R_elder' (by (with_reducible repeat (first | apply Kd.R_alloc | apply Kd.R_drewN | apply Kd.R_drew)); exact HO339.out) (Kd.R_base ho38) hb); have n2_ := Aside0.mk (Kd.R_lower (Kd.R_new' ho38 (Kd.R_lt (by (with_reducible repeat (first | apply Kd.R_alloc | apply Kd.R_drewN | apply Kd.R_drew)); exact HO339.out))) (below_size (by repeat (first | (with_reducible first | exact HB.out | apply below_alloc | apply pw_below_drewN | apply below_drew1) | exact HB.out)))); have n3_ := Aside0.mk (below_step (by repeat (first | (with_reducible first | exact HB.out | apply below_alloc | apply pw_below_drewN | apply below_drew1) | exact HB.out)) hb); clear HO336; clear HO339; clear HB; have HO336 := n0_; have HO339 := n1_; have HO342 := n2_; have HB := n3_; clear n0_ n1_ n2_ n3_; clear hb ho38; obtain ⟨Ao39, co39, eo39⟩ := Kd.R_slice HO339.out; subst eo39; obtain ⟨Ao40, co40, eo40⟩ := Kd.R_slice HO342.out; subst eo40) | ((with_reducible refine gate_dst (N := 15) rfl ?_); (try (refine gate_guard (by rfl) ?_; dsimp only)); refine Kd.N_lit (Kd.slice 3 (Kd.int .i64)) _ 38 ?hg (N' := 15) ?hd (xs := ([y337, y340] : List (List Int))) (inner := [.slice Ao39 y337.length co39, .slice Ao40 y340.length co40]) (ok := (fun k_ => some k_ ≠ (v335 : Value).ownBlock)) (okp := (fun k_ => some k_ ≠ (v335 : Value).ownBlock)) ?hr ?hp (fun _ hk => hk) ((show ∀ k_, w37.heap.size ≤ k_ → (fun k_ => some k_ ≠ (v335 : Value).ownBlock) k_ from fun k_ hk => Kd.fresh' (Kd.N_lt (by (with_reducible repeat (first | apply Kd.N_alloc | apply Kd.N_drewN | apply Kd.N_drew)); exact HO336.out)) k_ hk) _ (Nat.le_refl _)) (Below.refl _ _) (Nat.le_refl _) (by simp) ?_; (case hd => rfl); (case hg => rfl); (case hr => first | (go_simp; done) | (go_simp; rfl)); (case hp => exact (Reps.one (show Kd.FK (Kd.slice 3 (Kd.int .i64)) _ _ y337 [.slice Ao39 y337.length co39] from (Kd.FK_slice_mk (Kd.R_reads' (Kd.R_mono (ok' := (fun k_ => some k_ ≠ (v335 : Value).ownBlock)) (Kd.R_apart' (HO339.out) (Kd.N_typed HO336.out) (by decide)) (fun k_ hk => hk.2))).2.1 (Kd.R_F (Kd.R_mono (ok' := (fun k_ => some k_ ≠ (v335 : Value).ownBlock)) (Kd.R_apart' (HO339.out) (Kd.N_typed HO336.out) (by decide)) (fun k_ hk => hk.2))))) (Reps.one (show Kd.FK (Kd.slice 3 (Kd.int .i64)) _ _ y340 [.slice Ao40 y340.length co40] from (Kd.FK_slice_mk (Kd.R_reads' (Kd.R_mono (ok' := (fun k_ => some k_ ≠ (v335 : Value).ownBlock)) (Kd.R_apart' (HO342.out) (Kd.N_typed HO336.out) (by decide)) (fun k_ hk => hk.2))).2.1 (Kd.R_F (Kd.R_mono (ok' := (fun k_ => some k_ ≠ (v335 : Value).ownBlock)) (Kd.R_apart' (HO342.out) (Kd.N_typed HO336.out) (by decide)) (fun k_ hk => hk.2))))) (Reps.none _ _)))); intro v344 w41 ho42 hb hg_ hnew_; clear hg_ hnew_; (first | rw [← Ny343.out] at ho42 | (simp only [Int.reduceToNat] at ho42; rw [← Ny343.out] at ho42)); have n0_ := Aside0.mk (Kd.N_elder' (by (with_reducible repeat (first | apply Kd.N_alloc | apply Kd.N_drewN | apply Kd.N_drew)); exact HO336.out) (Kd.N_base ho42) hb); have n1_ := Aside0.mk (Kd.N_lower ho42 (below_size (by repeat (first | (with_reducible first | exact HB.out | apply below_alloc | apply pw_below_drewN | apply below_drew1) | exact HB.out)))); have n2_ := Aside0.mk (below_step (by repeat (first | (with_reducible first | exact HB.out | apply below_alloc | apply pw_below_drewN | apply below_drew1) | exact HB.out)) hb); clear HO336; clear HB; clear HO339; clear HO342; have HO336 := n0_; have HO345 := n1_; have HB := n2_; clear n0_ n1_ n2_; clear hb ho42; obtain ⟨Ao43, co43, eo43⟩ := Kd.N_slice HO336.out; subst eo43; obtain ⟨Ao44, co44, eo44⟩ := Kd.N_slice HO345.out; subst eo44) | ((with_reducible refine gate_callee (f := 21) rfl ?_); refine goesL_ (some 16) rfl rfl Try.func21 (by kernel_rfl) rfl #[.slice Ao43 y334.length co43, .slice Ao44 y343.length co44, .int .i64 9] rfl (by (try simp only [List.map_toArray, List.map_cons, List.map_nil]); first | done | rfl | (simp only [List.length_drop, List.length_take]; rfl)) ?_; (with_reducible refine (ceiling_Simulate.calls k _ _ y334 _ _ y343 9 t346 t347 _ ?side1 ?side2 ?side3 ?side4 A1.out).mono ?_); (case side1 => repeat (first | exact (Kd.N_reads' HO336.out).2.2 | (with_reducible refine Kd.C_alloc ?_ _) | (with_reducible refine Kd.C_drewN ?_ _) | (with_reducible refine Kd.C_drew ?_))); (case side2 => exact (Kd.N_reads' HO336.out).2.1); (case side3 => repeat (first | exact (Kd.N_reads' HO345.out).2.2 | (with_reducible refine Kd.C_alloc ?_ _) | (with_reducible refine Kd.C_drewN ?_ _) | (with_reducible refine Kd.C_drew ?_))); (case side4 => exact (Kd.N_reads' HO345.out).2.1); rintro e w45 ⟨v348, rfl, ho0, hb⟩; refine ⟨_, rfl, ?_⟩; have n0_ := Aside0.mk (Kd.N_elder' (by (with_reducible repeat (first | apply Kd.N_alloc | apply Kd.N_drewN | apply Kd.N_drew)); exact HO336.out) (Kd.R_base ho0) hb); have n1_ := Aside0.mk (Kd.N_elder' (by (with_reducible repeat (first | apply Kd.N_alloc | apply Kd.N_drewN | apply Kd.N_drew)); exact HO345.out) (Kd.R_base ho0) hb); have n2_ := Aside0.mk (Kd.R_lower ho0 (below_size (by repeat (first | (with_reducible first | exact HB.out | apply below_alloc | apply pw_below_drewN | apply below_drew1) | exact HB.out)))); have n3_ := Aside0.mk (below_step (by repeat (first | (with_reducible first | exact HB.out | apply below_alloc | apply pw_below_drewN | apply below_drew1) | exact HB.out)) hb); clear HO336; clear HO345; clear HB; have HO336 := n0_; have HO345 := n1_; have HO349 := n2_; have HB := n3_; clear n0_ n1_ n2_ n3_; (try clear hb); (try clear hb2); (try clear hk); (try clear hi); (try clear ho0)))
    go_ret
    exact ⟨by first | rfl | (simp [errW_none, errW_some] <;> rfl) | (simp [*, errW_none, errW_some] <;> rfl), by repeat (first | (with_reducible first | exact HB.out | apply below_alloc | apply pw_below_drewN | apply below_drew1) | exact HB.out)⟩

/-! ### ontimelaw43_plain: function 35 -/
mutual
def ontimelaw43_plain.l0 : Nat → List (S93) → List (S49) → Int → Int → Option ((List (S93)))
  | 0, _, _, _, _ => none
  | k + 1, x3, x9, x10, x11 => if x11 < x10 then (if 0 ≤ x11 then (if x11 < (x9.length : Int) then (ontimelaw43_plain.l1 k x3 x9 x10 x11 ((rd_T49 x9 x11).f3) (((rd_T49 x9 x11).f3).length : Int) 0 ((rd_T49 x9 x11).f0) ((rd_T49 x9 x11).f1) ((rd_T49 x9 x11).f2) ([] : List (S94))) else (none)) else (none)) else (some x3)
def ontimelaw43_plain.l1 : Nat → List (S93) → List (S49) → Int → Int → List (S68) → Int → Int → Int → Int → Int → List (S94) → Option ((List (S93)))
  | 0, _, _, _, _, _, _, _, _, _, _, _ => none
  | k + 1, x3, x9, x10, x11, x23, x24, x25, x357000, x357001, x357002, x357003 => if x25 < x24 then (if 0 ≤ x25 then (if x25 < (x23.length : Int) then (if x357003.length < 5864062014805 then (ontimelaw43_plain.l1 k x3 x9 x10 x11 x23 x24 (wrap64 (x25 + 1)) x357000 x357001 x357002 (x357003 ++ [(⟨(rd_T68 x23 x25).f0, (rd_T68 x23 x25).f1, (rd_T68 x23 x25).f2⟩ : S94)])) else (none)) else (none)) else (none)) else (if x3.length < 2932031007402 then (ontimelaw43_plain.l0 k (x3 ++ [(⟨x357000, x357001, x357002, x357003⟩ : S93)]) x9 x10 (wrap64 (x11 + 1))) else (none))
end
def ontimelaw43_plain.f (k : Nat) (l0 : List (S49)) : Option ((List (S93))) := ontimelaw43_plain.l0 k ([] : List (S93)) l0 (l0.length : Int) 0
theorem ontimelaw43_plain.mono_l : ∀ k, (∀ y0 y1 y2 y3, LeO (ontimelaw43_plain.l0 k y0 y1 y2 y3) (ontimelaw43_plain.l0 (k + 1) y0 y1 y2 y3)) ∧ (∀ y0 y1 y2 y3 y4 y5 y6 y7 y8 y9 y10, LeO (ontimelaw43_plain.l1 k y0 y1 y2 y3 y4 y5 y6 y7 y8 y9 y10) (ontimelaw43_plain.l1 (k + 1) y0 y1 y2 y3 y4 y5 y6 y7 y8 y9 y10))
  | 0 => ⟨fun _ _ _ _ r h => by simp [ontimelaw43_plain.l0] at h, fun _ _ _ _ _ _ _ _ _ _ _ r h => by simp [ontimelaw43_plain.l1] at h⟩
  | k + 1 => by
    obtain ⟨ih0, ih1⟩ := ontimelaw43_plain.mono_l k
    refine ⟨?_, ?_⟩
    · intro y0 y1 y2 y3
      unfold ontimelaw43_plain.l0
      repeat' first
      | (with_reducible exact ih0 _ _ _ _)
      | (with_reducible exact ih1 _ _ _ _ _ _ _ _ _ _ _)
      | (with_reducible exact LeO.refl _)
      | (with_reducible exact LeO.none _)
      | (with_reducible refine LeO.ite ?_ ?_)
      | (with_reducible refine LeO.bind ?_ (fun _ => ?_))
      | exact ih0 _ _ _ _
      | exact ih1 _ _ _ _ _ _ _ _ _ _ _
      | exact LeO.none _
      | refine LeO.ite ?_ ?_
      | refine LeO.bind ?_ (fun _ => ?_)
    · intro y0 y1 y2 y3 y4 y5 y6 y7 y8 y9 y10
      unfold ontimelaw43_plain.l1
      repeat' first
      | (with_reducible exact ih0 _ _ _ _)
      | (with_reducible exact ih1 _ _ _ _ _ _ _ _ _ _ _)
      | (with_reducible exact LeO.refl _)
      | (with_reducible exact LeO.none _)
      | (with_reducible refine LeO.ite ?_ ?_)
      | (with_reducible refine LeO.bind ?_ (fun _ => ?_))
      | exact ih0 _ _ _ _
      | exact ih1 _ _ _ _ _ _ _ _ _ _ _
      | exact LeO.none _
      | refine LeO.ite ?_ ?_
      | refine LeO.bind ?_ (fun _ => ?_)
theorem ontimelaw43_plain.mono : ∀ a0 k, LeO (ontimelaw43_plain.f k a0) (ontimelaw43_plain.f (k + 1) a0) := by
  intro a0 k
  obtain ⟨ih0, ih1⟩ := ontimelaw43_plain.mono_l k
  unfold ontimelaw43_plain.f
  repeat' first
      | (with_reducible exact ih0 _ _ _ _)
      | (with_reducible exact ih1 _ _ _ _ _ _ _ _ _ _ _)
      | (with_reducible exact LeO.refl _)
      | (with_reducible exact LeO.none _)
      | (with_reducible refine LeO.ite ?_ ?_)
      | (with_reducible refine LeO.bind ?_ (fun _ => ?_))
      | exact ih0 _ _ _ _
      | exact ih1 _ _ _ _ _ _ _ _ _ _ _
      | exact LeO.none _
      | refine LeO.ite ?_ ?_
      | refine LeO.bind ?_ (fun _ => ?_)
set_option maxHeartbeats 8000000 in
set_option maxRecDepth 100000 in
theorem ontimelaw43_plain.calls (k : Nat) (A0 : Option Addr) (c0 : Nat) (l0 : List (S49)) (r : List (S93)) (w : World) (hr0 : Kd.C k49 w A0 l0.length l0) (hc0 : l0.length ≤ c0) (h : ontimelaw43_plain.f k l0 = some r) :
    Calls Try.prog 35 #[.slice A0 l0.length c0] w fun e w' => ∃ v0_ : Value, e = .returned (v0_) ∧ Kd.S k93 93 w' w.heap.size (fun _ => True) v0_ r ∧ Below w.heap.size w w' := by
  have hu49 := Try.underlying49
  have hu93 := Try.underlying93
  have hu68 := Try.underlying68
  have hu94 := Try.underlying94
  have HR0 := Aside0.mk hr0
  have HC0 := Aside0.mk hc0
  clear hr0 hc0
  have HB := Aside0.mk (Below.refl w.heap.size w)
  have H : (ontimelaw43_plain.l0 k ([] : List (S93)) l0 (l0.length : Int) 0) = some r := h
  clear h
  have H' := Aside0.mk H
  clear H
  go_enter Try.func35, Try.ntmps35
  go_wp2
  go_loopg [3, 11] k (fun kq v3 v11 w' => ∃ (x3_1 : List (S93)) (x11_1 : Int), v11 = .int .i64 x11_1 ∧ Aside0 (ontimelaw43_plain.l0 kq x3_1 l0 (l0.length : Int) x11_1 = some r) ∧ Aside0 (kq ≤ k) ∧ Aside0 (Kd.S k93 93 w' w.heap.size (fun _ => True) v3 x3_1) ∧ Aside0 (Below w.heap.size w w'))
  case atStart => exact ⟨(([] : List (S93))), (0), (by first | rfl | (simp; done) | (simp [*]; done)), H', ⟨Nat.le_refl _⟩, ⟨by first | exact Kd.S_nil _ _ _ _ _ | exact Kd.N_nil _ _ _ _ _ | exact Kd.V_nil _ _ _ _ _ | exact Kd.Q_nil _ _ _ _ _ | exact Kd.R_nil _ _ _ _ _⟩, ⟨by repeat (first | (with_reducible first | exact HB.out | apply below_alloc | apply pw_below_drewN | apply below_drew1) | exact HB.out)⟩⟩
  case round =>
    clear H'
    obtain ⟨x3_1, x11_1, rfl, HA, HK1, HO_3, HB⟩ := hrel
    cases gk with
    | zero => exact absurd HA.out (by simp [ontimelaw43_plain.l0])
    | succ k1 =>
      have H := HA.out
      clear HA
      simp only [ontimelaw43_plain.l0] at H
      by_cases c2 : x11_1 < (l0.length : Int)
      · rw [if_pos c2] at H
        have c2b0 : decide (x11_1 < (l0.length : Int)) = true := decide_eq_true c2
        clear c2
        by_cases c3 : 0 ≤ x11_1
        · rw [if_pos c3] at H
          have c3b0 : decide (0 ≤ x11_1) = true := decide_eq_true c3
          clear c3
          by_cases c4 : x11_1 < (l0.length : Int)
          · rw [if_pos c4] at H
            have c4b0 : decide (x11_1 < (l0.length : Int)) = true := decide_eq_true c4
            clear c4
            have H' := Aside0.mk H
            clear H
            have p354 : 0 ≤ (x11_1 : Int) := of_decide_eq_true (by first | (with_reducible assumption) | assumption)
            have q354 : x11_1 < (l0.length : Int) := of_decide_eq_true (by first | (with_reducible assumption) | assumption)
            obtain ⟨ad354, A354_3, c354_3, e354, hx354_0, hx354_1, hx354_2, hx354_3, hl354_3, hi354_3⟩ := at_T49 HR0.out x11_1 p354 q354
            cases e354
            replace hx354_0 := (HB.out.cell (World.block_lt_of_cell? w _ hx354_0)).trans hx354_0
            replace hx354_1 := (HB.out.cell (World.block_lt_of_cell? w _ hx354_1)).trans hx354_1
            replace hx354_2 := (HB.out.cell (World.block_lt_of_cell? w _ hx354_2)).trans hx354_2
            replace hx354_3 := (HB.out.cell (World.block_lt_of_cell? w _ hx354_3)).trans hx354_3
            have HR354_3 := Aside0.mk hi354_3
            have HC354_3 := Aside0.mk hl354_3
            clear hi354_3 hl354_3
            replace p354 := eq_true p354
            replace q354 := eq_true q354
            go_wp2_with (first | ((with_reducible refine gate_dst (N := 5) rfl ?_); refine box_event ?hg (N := 5) ?hd (cs := #[.int .i64 0, .int .i64 0, .int .i64 0, .slice none 0 0]) (t := 49) ?hr ?_; (case hd => rfl); (case hg => rfl); (case hr => first | (go_simp; done) | (go_simp; rfl)); intro gb355 hg w5 hbox hb; have n0_ := Aside0.mk (Kd.S_below (by (with_reducible repeat (first | apply Kd.S_alloc | apply Kd.S_drewN | apply Kd.S_drew)); exact HO_3.out) hb); have n1_ := Aside0.mk (below_step (by repeat (first | (with_reducible first | exact HB.out | apply below_alloc | apply pw_below_drewN | apply below_drew1) | exact HB.out)) hb); have n2_ := Aside0.mk (hbox); have n3_ := Aside0.mk ((by rw [hg]; exact (below_size (by repeat (first | (with_reducible first | exact HB.out | apply below_alloc | apply pw_below_drewN | apply below_drew1) | exact HB.out))) : w.heap.size ≤ gb355)); have n4_ := Aside0.mk ((by rw [hg]; exact (below_size (by repeat (first | (with_reducible first | exact HB.out | apply below_alloc | apply pw_below_drewN | apply below_drew1) | exact HB.out))) : w.heap.size ≤ gb355)); clear HO_3; clear HB; have HO_3 := n0_; have HB := n1_; have BK355 := n2_; have GW355 := n3_; have GE355 := n4_; clear n0_ n1_ n2_ n3_ n4_; clear hb hbox hg; have hcz6_0 : w5.cell? ⟨gb355, 0, none⟩ = some (.int .i64 0) := (blk_cell BK355.out 0).trans rfl; have hcz6_1 : w5.cell? ⟨gb355, 1, none⟩ = some (.int .i64 0) := (blk_cell BK355.out 1).trans rfl; have hcz6_2 : w5.cell? ⟨gb355, 2, none⟩ = some (.int .i64 0) := (blk_cell BK355.out 2).trans rfl; have hcz6_3 : w5.cell? ⟨gb355, 3, none⟩ = some (.slice none 0 0) := (blk_cell BK355.out 3).trans rfl; have hfz6_0 := blk_frozen BK355.out 0; have hfz6_1 := blk_frozen BK355.out 1; have hfz6_2 := blk_frozen BK355.out 2; have hfz6_3 := blk_frozen BK355.out 3) | ((with_reducible refine gate_dst (N := 6) rfl ?_); refine box_event ?hg (N := 6) ?hd (cs := #[.int .i64 0, .int .i64 0, .int .i64 0, .slice none 0 0]) (t := 93) ?hr ?_; (case hd => rfl); (case hg => rfl); (case hr => first | (go_simp; done) | (go_simp; rfl)); intro gb356 hg w7 hbox hb; have n0_ := Aside0.mk (Kd.S_below (Kd.S_elderB (by (with_reducible repeat (first | apply Kd.S_alloc | apply Kd.S_drewN | apply Kd.S_drew)); exact (Kd.S_mono (Kd.S_far (p := ⟨gb355, 3, none⟩) (Kd.S_far (p := ⟨gb355, 2, none⟩) (Kd.S_far (p := ⟨gb355, 1, none⟩) (Kd.S_far (p := ⟨gb355, 0, none⟩) (Kd.S_types HO_3.out BK355.out (by decide)) (fun _ hk => hk.2) (.int .i64 ((rd_T49 l0 x11_1).f0))) (fun _ hk => hk.2) (.int .i64 ((rd_T49 l0 x11_1).f1))) (fun _ hk => hk.2) (.int .i64 ((rd_T49 l0 x11_1).f2))) (fun _ hk => hk.2) (.slice A354_3 ((rd_T49 l0 x11_1).f3).length c354_3)) (fun _ h_ => h_.1))) gb356 (Nat.le_of_eq hg.symm)) hb); have n1_ := Aside0.mk (blk_below (g := gb355) (o := .cells #[.int .i64 ((rd_T49 l0 x11_1).f0), .int .i64 ((rd_T49 l0 x11_1).f1), .int .i64 ((rd_T49 l0 x11_1).f2), .slice A354_3 ((rd_T49 l0 x11_1).f3).length c354_3] 49 (0, 0)) (by (with_reducible repeat (first | refine blk_drewN ?_ _ | refine blk_drew ?_ | refine blk_alloc ?_ _)); refine blk_put (cs := #[.int .i64 ((rd_T49 l0 x11_1).f0), .int .i64 ((rd_T49 l0 x11_1).f1), .int .i64 ((rd_T49 l0 x11_1).f2), .slice none 0 0]) ?_ 3 _ rfl; (with_reducible repeat (first | refine blk_drewN ?_ _ | refine blk_drew ?_ | refine blk_alloc ?_ _)); refine blk_put (cs := #[.int .i64 ((rd_T49 l0 x11_1).f0), .int .i64 ((rd_T49 l0 x11_1).f1), .int .i64 0, .slice none 0 0]) ?_ 2 _ rfl; (with_reducible repeat (first | refine blk_drewN ?_ _ | refine blk_drew ?_ | refine blk_alloc ?_ _)); refine blk_put (cs := #[.int .i64 ((rd_T49 l0 x11_1).f0), .int .i64 0, .int .i64 0, .slice none 0 0]) ?_ 1 _ rfl; (with_reducible repeat (first | refine blk_drewN ?_ _ | refine blk_drew ?_ | refine blk_alloc ?_ _)); refine blk_put (cs := #[.int .i64 0, .int .i64 0, .int .i64 0, .slice none 0 0]) ?_ 0 _ rfl; (with_reducible repeat (first | refine blk_drewN ?_ _ | refine blk_drew ?_ | refine blk_alloc ?_ _)); exact BK355.out) hb); have n2_ := Aside0.mk (below_step (by repeat (first | (with_reducible first | exact HB.out | apply below_alloc | apply pw_below_drewN | apply below_drew1 | refine below_set ?_ GE355.out) | exact HB.out)) hb); have n3_ := Aside0.mk (hbox); have n4_ := Aside0.mk ((by rw [hg]; exact (below_size (by repeat (first | (with_reducible first | exact HB.out | apply below_alloc | apply pw_below_drewN | apply below_drew1 | refine below_set ?_ GE355.out) | exact HB.out))) : w.heap.size ≤ gb356)); have n5_ := Aside0.mk ((by rw [hg]; exact (below_size (by repeat (first | (with_reducible first | exact HB.out | apply below_alloc | apply pw_below_drewN | apply below_drew1 | refine below_set ?_ GE355.out) | exact HB.out))) : w.heap.size ≤ gb356)); have n6_ := Aside0.mk ((by rw [hg]; exact Nat.ne_of_lt (blk_lt (g := gb355) (o := .cells #[.int .i64 ((rd_T49 l0 x11_1).f0), .int .i64 ((rd_T49 l0 x11_1).f1), .int .i64 ((rd_T49 l0 x11_1).f2), .slice A354_3 ((rd_T49 l0 x11_1).f3).length c354_3] 49 (0, 0)) (by (with_reducible repeat (first | refine blk_drewN ?_ _ | refine blk_drew ?_ | refine blk_alloc ?_ _)); refine blk_put (cs := #[.int .i64 ((rd_T49 l0 x11_1).f0), .int .i64 ((rd_T49 l0 x11_1).f1), .int .i64 ((rd_T49 l0 x11_1).f2), .slice none 0 0]) ?_ 3 _ rfl; (with_reducible repeat (first | refine blk_drewN ?_ _ | refine blk_drew ?_ | refine blk_alloc ?_ _)); refine blk_put (cs := #[.int .i64 ((rd_T49 l0 x11_1).f0), .int .i64 ((rd_T49 l0 x11_1).f1), .int .i64 0, .slice none 0 0]) ?_ 2 _ rfl; (with_reducible repeat (first | refine blk_drewN ?_ _ | refine blk_drew ?_ | refine blk_alloc ?_ _)); refine blk_put (cs := #[.int .i64 ((rd_T49 l0 x11_1).f0), .int .i64 0, .int .i64 0, .slice none 0 0]) ?_ 1 _ rfl; (with_reducible repeat (first | refine blk_drewN ?_ _ | refine blk_drew ?_ | refine blk_alloc ?_ _)); refine blk_put (cs := #[.int .i64 0, .int .i64 0, .int .i64 0, .slice none 0 0]) ?_ 0 _ rfl; (with_reducible repeat (first | refine blk_drewN ?_ _ | refine blk_drew ?_ | refine blk_alloc ?_ _)); exact BK355.out)) : gb355 ≠ gb356)); have n7_ := Aside0.mk ((by rw [hg]; exact Nat.ne_of_gt (blk_lt (g := gb355) (o := .cells #[.int .i64 ((rd_T49 l0 x11_1).f0), .int .i64 ((rd_T49 l0 x11_1).f1), .int .i64 ((rd_T49 l0 x11_1).f2), .slice A354_3 ((rd_T49 l0 x11_1).f3).length c354_3] 49 (0, 0)) (by (with_reducible repeat (first | refine blk_drewN ?_ _ | refine blk_drew ?_ | refine blk_alloc ?_ _)); refine blk_put (cs := #[.int .i64 ((rd_T49 l0 x11_1).f0), .int .i64 ((rd_T49 l0 x11_1).f1), .int .i64 ((rd_T49 l0 x11_1).f2), .slice none 0 0]) ?_ 3 _ rfl; (with_reducible repeat (first | refine blk_drewN ?_ _ | refine blk_drew ?_ | refine blk_alloc ?_ _)); refine blk_put (cs := #[.int .i64 ((rd_T49 l0 x11_1).f0), .int .i64 ((rd_T49 l0 x11_1).f1), .int .i64 0, .slice none 0 0]) ?_ 2 _ rfl; (with_reducible repeat (first | refine blk_drewN ?_ _ | refine blk_drew ?_ | refine blk_alloc ?_ _)); refine blk_put (cs := #[.int .i64 ((rd_T49 l0 x11_1).f0), .int .i64 0, .int .i64 0, .slice none 0 0]) ?_ 1 _ rfl; (with_reducible repeat (first | refine blk_drewN ?_ _ | refine blk_drew ?_ | refine blk_alloc ?_ _)); refine blk_put (cs := #[.int .i64 0, .int .i64 0, .int .i64 0, .slice none 0 0]) ?_ 0 _ rfl; (with_reducible repeat (first | refine blk_drewN ?_ _ | refine blk_drew ?_ | refine blk_alloc ?_ _)); exact BK355.out)) : gb356 ≠ gb355)); clear HO_3; clear BK355; clear HB; have HO_3 := n0_; have BK355 := n1_; have HB := n2_; have BK356 := n3_; have GW356 := n4_; have GE356 := n5_; have NB355_356 := n6_; have NB356_355 := n7_; clear n0_ n1_ n2_ n3_ n4_ n5_ n6_ n7_; clear hb hbox hg; have hnb8 := NB356_355.out; have hnc8 := NB355_356.out; have hcz9_0 : w7.cell? ⟨gb356, 0, none⟩ = some (.int .i64 0) := (blk_cell BK356.out 0).trans rfl; have hcz9_1 : w7.cell? ⟨gb356, 1, none⟩ = some (.int .i64 0) := (blk_cell BK356.out 1).trans rfl; have hcz9_2 : w7.cell? ⟨gb356, 2, none⟩ = some (.int .i64 0) := (blk_cell BK356.out 2).trans rfl; have hcz9_3 : w7.cell? ⟨gb356, 3, none⟩ = some (.slice none 0 0) := (blk_cell BK356.out 3).trans rfl; have hfz9_0 := blk_frozen BK356.out 0; have hfz9_1 := blk_frozen BK356.out 1; have hfz9_2 := blk_frozen BK356.out 2; have hfz9_3 := blk_frozen BK356.out 3; have hcz10_0 : w7.cell? ⟨gb355, 0, none⟩ = some (.int .i64 ((rd_T49 l0 x11_1).f0)) := (blk_cell BK355.out 0).trans rfl; have hcz10_1 : w7.cell? ⟨gb355, 1, none⟩ = some (.int .i64 ((rd_T49 l0 x11_1).f1)) := (blk_cell BK355.out 1).trans rfl; have hcz10_2 : w7.cell? ⟨gb355, 2, none⟩ = some (.int .i64 ((rd_T49 l0 x11_1).f2)) := (blk_cell BK355.out 2).trans rfl; have hcz10_3 : w7.cell? ⟨gb355, 3, none⟩ = some (.slice A354_3 ((rd_T49 l0 x11_1).f3).length c354_3) := (blk_cell BK355.out 3).trans rfl; have hfz10_0 := blk_frozen BK355.out 0; have hfz10_1 := blk_frozen BK355.out 1; have hfz10_2 := blk_frozen BK355.out 2; have hfz10_3 := blk_frozen BK355.out 3))
            go_loopg [25] k1 (fun kq v25 w' => ∃ (x25_2 : Int) (x357003_2 : List (S94)) (u357003 : Value), v25 = .int .i64 x25_2 ∧ Aside0 (ontimelaw43_plain.l1 kq x3_1 l0 (l0.length : Int) x11_1 ((rd_T49 l0 x11_1).f3) (((rd_T49 l0 x11_1).f3).length : Int) x25_2 ((rd_T49 l0 x11_1).f0) ((rd_T49 l0 x11_1).f1) ((rd_T49 l0 x11_1).f2) x357003_2 = some r) ∧ Aside0 (kq ≤ k1) ∧ Aside0 (Kd.S k93 93 w' w.heap.size (fun k_ => some k_ ≠ (u357003 : Value).ownBlock ∧ k_ ≠ gb356) u3 x3_1) ∧ Aside0 (Kd.R k94 94 w' w.heap.size (fun _ => True) u357003 x357003_2) ∧ Aside0 (w'.heap[gb355]? = some (.cells #[.int .i64 ((rd_T49 l0 x11_1).f0), .int .i64 ((rd_T49 l0 x11_1).f1), .int .i64 ((rd_T49 l0 x11_1).f2), (.slice A354_3 ((rd_T49 l0 x11_1).f3).length c354_3)] 49 (0, 0))) ∧ Aside0 (w'.heap[gb356]? = some (.cells #[.int .i64 ((rd_T49 l0 x11_1).f0), .int .i64 ((rd_T49 l0 x11_1).f1), .int .i64 ((rd_T49 l0 x11_1).f2), u357003] 93 (0, 0))) ∧ Aside0 (Below w.heap.size w w'))
            case atStart => exact ⟨(0), (([] : List (S94))), (.slice none 0 0), (by first | rfl | (simp; done) | (simp [*]; done)), H', ⟨Nat.le_refl _⟩, ⟨by (with_reducible repeat (first | apply Kd.S_alloc | apply Kd.S_drewN | apply Kd.S_drew)); exact Kd.S_mono (Kd.S_far (p := ⟨gb356, 3, none⟩) (Kd.S_far (p := ⟨gb356, 2, none⟩) (Kd.S_far (p := ⟨gb356, 1, none⟩) (Kd.S_far (p := ⟨gb356, 0, none⟩) (Kd.S_mono HO_3.out (fun k_ hk => (⟨hk, hk.2⟩ : _ ∧ k_ ≠ gb356))) (fun _ hk => hk.2) (.int .i64 ((rd_T49 l0 x11_1).f0))) (fun _ hk => hk.2) (.int .i64 ((rd_T49 l0 x11_1).f1))) (fun _ hk => hk.2) (.int .i64 ((rd_T49 l0 x11_1).f2))) (fun _ hk => hk.2) (.slice none 0 0)) (fun _ hk => ⟨(by simp [Value.ownBlock]), hk.1.2⟩)⟩, ⟨by first | exact Kd.R_nil _ _ _ _ _ | exact Kd.N_nil _ _ _ _ _ | exact Kd.V_nil _ _ _ _ _ | exact Kd.Q_nil _ _ _ _ _ | exact Kd.S_nil _ _ _ _ _⟩, ⟨by (with_reducible repeat (first | refine blk_drewN ?_ _ | refine blk_drew ?_ | refine blk_alloc ?_ _)); refine blk_far ?_ NB355_356.out _; (with_reducible repeat (first | refine blk_drewN ?_ _ | refine blk_drew ?_ | refine blk_alloc ?_ _)); refine blk_far ?_ NB355_356.out _; (with_reducible repeat (first | refine blk_drewN ?_ _ | refine blk_drew ?_ | refine blk_alloc ?_ _)); refine blk_far ?_ NB355_356.out _; (with_reducible repeat (first | refine blk_drewN ?_ _ | refine blk_drew ?_ | refine blk_alloc ?_ _)); refine blk_far ?_ NB355_356.out _; (with_reducible repeat (first | refine blk_drewN ?_ _ | refine blk_drew ?_ | refine blk_alloc ?_ _)); exact BK355.out⟩, ⟨by (with_reducible repeat (first | refine blk_drewN ?_ _ | refine blk_drew ?_ | refine blk_alloc ?_ _)); refine blk_put (cs := #[.int .i64 ((rd_T49 l0 x11_1).f0), .int .i64 ((rd_T49 l0 x11_1).f1), .int .i64 ((rd_T49 l0 x11_1).f2), .slice none 0 0]) ?_ 3 _ rfl; (with_reducible repeat (first | refine blk_drewN ?_ _ | refine blk_drew ?_ | refine blk_alloc ?_ _)); refine blk_put (cs := #[.int .i64 ((rd_T49 l0 x11_1).f0), .int .i64 ((rd_T49 l0 x11_1).f1), .int .i64 0, .slice none 0 0]) ?_ 2 _ rfl; (with_reducible repeat (first | refine blk_drewN ?_ _ | refine blk_drew ?_ | refine blk_alloc ?_ _)); refine blk_put (cs := #[.int .i64 ((rd_T49 l0 x11_1).f0), .int .i64 0, .int .i64 0, .slice none 0 0]) ?_ 1 _ rfl; (with_reducible repeat (first | refine blk_drewN ?_ _ | refine blk_drew ?_ | refine blk_alloc ?_ _)); refine blk_put (cs := #[.int .i64 0, .int .i64 0, .int .i64 0, .slice none 0 0]) ?_ 0 _ rfl; (with_reducible repeat (first | refine blk_drewN ?_ _ | refine blk_drew ?_ | refine blk_alloc ?_ _)); exact BK356.out⟩, ⟨by repeat (first | (with_reducible first | exact HB.out | apply below_alloc | apply pw_below_drewN | apply below_drew1 | refine below_set ?_ GE355.out | refine below_set ?_ GE356.out) | exact HB.out)⟩⟩
            case round =>
              clear H'
              try clear c2
              try clear c2b0
              try clear p2
              try clear c3
              try clear c3b0
              try clear p3
              try clear q3
              try clear hx3
              try clear c4
              try clear c4b0
              try clear c8
              try clear hcz10_0
              try clear hcz10_1
              try clear hcz10_2
              try clear hcz10_3
              try clear hcz6_0
              try clear hcz6_1
              try clear hcz6_2
              try clear hcz6_3
              try clear hcz9_0
              try clear hcz9_1
              try clear hcz9_2
              try clear hcz9_3
              try clear hfz10_0
              try clear hfz10_1
              try clear hfz10_2
              try clear hfz10_3
              try clear hfz6_0
              try clear hfz6_1
              try clear hfz6_2
              try clear hfz6_3
              try clear hfz9_0
              try clear hfz9_1
              try clear hfz9_2
              try clear hfz9_3
              try clear hx354_0
              try clear hx354_1
              try clear hx354_2
              try clear hx354_3
              try clear p354
              try clear q354
              obtain ⟨x25_2, x357003_2, u357003, rfl, HA, HK2, HO_3, HO_357003, BK355, BK356, HB⟩ := hrel
              cases gk with
              | zero => exact absurd HA.out (by simp [ontimelaw43_plain.l1])
              | succ k2 =>
                have H := HA.out
                clear HA
                simp only [ontimelaw43_plain.l1] at H
                by_cases c11 : x25_2 < (((rd_T49 l0 x11_1).f3).length : Int)
                · rw [if_pos c11] at H
                  have c11b0 : decide (x25_2 < (((rd_T49 l0 x11_1).f3).length : Int)) = true := decide_eq_true c11
                  clear c11
                  by_cases c12 : 0 ≤ x25_2
                  · rw [if_pos c12] at H
                    have c12b0 : decide (0 ≤ x25_2) = true := decide_eq_true c12
                    clear c12
                    by_cases c13 : x25_2 < (((rd_T49 l0 x11_1).f3).length : Int)
                    · rw [if_pos c13] at H
                      have c13b0 : decide (x25_2 < (((rd_T49 l0 x11_1).f3).length : Int)) = true := decide_eq_true c13
                      clear c13
                      by_cases c14 : x357003_2.length < 5864062014805
                      · rw [if_pos c14] at H
                        have LMc14 := Aside0.mk c14
                        clear c14
                        obtain ⟨y359, hy359⟩ : ∃ y_ : List (S94), y_ = (x357003_2 ++ [(⟨(rd_T68 ((rd_T49 l0 x11_1).f3) x25_2).f0, (rd_T68 ((rd_T49 l0 x11_1).f3) x25_2).f1, (rd_T68 ((rd_T49 l0 x11_1).f3) x25_2).f2⟩ : S94)]) := ⟨_, rfl⟩
                        replace H : (ontimelaw43_plain.l1 k2 x3_1 l0 (l0.length : Int) x11_1 ((rd_T49 l0 x11_1).f3) (((rd_T49 l0 x11_1).f3).length : Int) (wrap64 (x25_2 + 1)) ((rd_T49 l0 x11_1).f0) ((rd_T49 l0 x11_1).f1) ((rd_T49 l0 x11_1).f2) y359) = some r := by first | (rw [hy359]; with_reducible exact H) | (have H2_ := (Option.bind_some _ _).symm.trans H; rw [hy359]; with_reducible exact H2_) | (have H2_ := (Option.bind_some _ _).symm.trans H; with_reducible exact H2_) | with_reducible exact H | (rw [hy359]; exact H) | exact H
                        have Ny359 := Aside0.mk hy359
                        clear hy359
                        have H' := Aside0.mk H
                        clear H
                        have p357 : 0 ≤ (x25_2 : Int) := of_decide_eq_true (by first | (with_reducible assumption) | assumption)
                        have q357 : x25_2 < (((rd_T49 l0 x11_1).f3).length : Int) := of_decide_eq_true (by first | (with_reducible assumption) | assumption)
                        obtain ⟨ad357, e357, hx357_0, hx357_1, hx357_2⟩ := at_T68 HR354_3.out x25_2 p357 q357
                        cases e357
                        replace hx357_0 := (HB.out.cell (World.block_lt_of_cell? w _ hx357_0)).trans hx357_0
                        replace hx357_1 := (HB.out.cell (World.block_lt_of_cell? w _ hx357_1)).trans hx357_1
                        replace hx357_2 := (HB.out.cell (World.block_lt_of_cell? w _ hx357_2)).trans hx357_2
                        replace p357 := eq_true p357
                        replace q357 := eq_true q357
                        go_wp2_with (first | ((with_reducible refine gate_dst (N := 8) rfl ?_); refine box_event ?hg (N := 8) ?hd (cs := #[.int .i64 0, .int .i64 0, .int .i64 0]) (t := 68) ?hr ?_; (case hd => rfl); (case hg => rfl); (case hr => first | (go_simp; done) | (go_simp; rfl)); intro gb358 hg w15 hbox hb; have n0_ := Aside0.mk (Kd.S_below (by (with_reducible repeat (first | apply Kd.S_alloc | apply Kd.S_drewN | apply Kd.S_drew)); exact HO_3.out) hb); have n1_ := Aside0.mk (Kd.R_below (by (with_reducible repeat (first | apply Kd.R_alloc | apply Kd.R_drewN | apply Kd.R_drew)); exact HO_357003.out) hb); have n2_ := Aside0.mk (blk_below (g := gb355) (o := .cells #[.int .i64 ((rd_T49 l0 x11_1).f0), .int .i64 ((rd_T49 l0 x11_1).f1), .int .i64 ((rd_T49 l0 x11_1).f2), .slice (some ad357) ((rd_T49 l0 x11_1).f3).length c354_3] 49 (0, 0)) (by (with_reducible repeat (first | refine blk_drewN ?_ _ | refine blk_drew ?_ | refine blk_alloc ?_ _)); exact BK355.out) hb); have n3_ := Aside0.mk (blk_below (g := gb356) (o := .cells #[.int .i64 ((rd_T49 l0 x11_1).f0), .int .i64 ((rd_T49 l0 x11_1).f1), .int .i64 ((rd_T49 l0 x11_1).f2), u357003] 93 (0, 0)) (by (with_reducible repeat (first | refine blk_drewN ?_ _ | refine blk_drew ?_ | refine blk_alloc ?_ _)); exact BK356.out) hb); have n4_ := Aside0.mk (below_step (by repeat (first | (with_reducible first | exact HB.out | apply below_alloc | apply pw_below_drewN | apply below_drew1 | refine below_set ?_ GE355.out | refine below_set ?_ GE356.out) | exact HB.out)) hb); have n5_ := Aside0.mk (hbox); have n6_ := Aside0.mk ((by rw [hg]; exact (below_size (by repeat (first | (with_reducible first | exact HB.out | apply below_alloc | apply pw_below_drewN | apply below_drew1 | refine below_set ?_ GE355.out | refine below_set ?_ GE356.out) | exact HB.out))) : w.heap.size ≤ gb358)); have n7_ := Aside0.mk ((by rw [hg]; exact (below_size (by repeat (first | (with_reducible first | exact HB.out | apply below_alloc | apply pw_below_drewN | apply below_drew1 | refine below_set ?_ GE355.out | refine below_set ?_ GE356.out) | exact HB.out))) : w.heap.size ≤ gb358)); have n8_ := Aside0.mk ((by rw [hg]; exact Nat.ne_of_lt (blk_lt (g := gb355) (o := .cells #[.int .i64 ((rd_T49 l0 x11_1).f0), .int .i64 ((rd_T49 l0 x11_1).f1), .int .i64 ((rd_T49 l0 x11_1).f2), .slice (some ad357) ((rd_T49 l0 x11_1).f3).length c354_3] 49 (0, 0)) (by (with_reducible repeat (first | refine blk_drewN ?_ _ | refine blk_drew ?_ | refine blk_alloc ?_ _)); exact BK355.out)) : gb355 ≠ gb358)); have n9_ := Aside0.mk ((by rw [hg]; exact Nat.ne_of_gt (blk_lt (g := gb355) (o := .cells #[.int .i64 ((rd_T49 l0 x11_1).f0), .int .i64 ((rd_T49 l0 x11_1).f1), .int .i64 ((rd_T49 l0 x11_1).f2), .slice (some ad357) ((rd_T49 l0 x11_1).f3).length c354_3] 49 (0, 0)) (by (with_reducible repeat (first | refine blk_drewN ?_ _ | refine blk_drew ?_ | refine blk_alloc ?_ _)); exact BK355.out)) : gb358 ≠ gb355)); have n10_ := Aside0.mk ((by rw [hg]; exact Nat.ne_of_lt (blk_lt (g := gb356) (o := .cells #[.int .i64 ((rd_T49 l0 x11_1).f0), .int .i64 ((rd_T49 l0 x11_1).f1), .int .i64 ((rd_T49 l0 x11_1).f2), u357003] 93 (0, 0)) (by (with_reducible repeat (first | refine blk_drewN ?_ _ | refine blk_drew ?_ | refine blk_alloc ?_ _)); exact BK356.out)) : gb356 ≠ gb358)); have n11_ := Aside0.mk ((by rw [hg]; exact Nat.ne_of_gt (blk_lt (g := gb356) (o := .cells #[.int .i64 ((rd_T49 l0 x11_1).f0), .int .i64 ((rd_T49 l0 x11_1).f1), .int .i64 ((rd_T49 l0 x11_1).f2), u357003] 93 (0, 0)) (by (with_reducible repeat (first | refine blk_drewN ?_ _ | refine blk_drew ?_ | refine blk_alloc ?_ _)); exact BK356.out)) : gb358 ≠ gb356)); clear HO_3; clear HO_357003; clear BK355; clear BK356; clear HB; have HO_3 := n0_; have HO_357003 := n1_; have BK355 := n2_; have BK356 := n3_; have HB := n4_; have BK358 := n5_; have GW358 := n6_; have GE358 := n7_; have NB355_358 := n8_; have NB358_355 := n9_; have NB356_358 := n10_; have NB358_356 := n11_; clear n0_ n1_ n2_ n3_ n4_ n5_ n6_ n7_ n8_ n9_ n10_ n11_; clear hb hbox hg; have hnb16 := NB358_355.out; have hnc16 := NB355_358.out; have hnb17 := NB358_356.out; have hnc17 := NB356_358.out; have hcz18_0 : w15.cell? ⟨gb358, 0, none⟩ = some (.int .i64 0) := (blk_cell BK358.out 0).trans rfl; have hcz18_1 : w15.cell? ⟨gb358, 1, none⟩ = some (.int .i64 0) := (blk_cell BK358.out 1).trans rfl; have hcz18_2 : w15.cell? ⟨gb358, 2, none⟩ = some (.int .i64 0) := (blk_cell BK358.out 2).trans rfl; have hfz18_0 := blk_frozen BK358.out 0; have hfz18_1 := blk_frozen BK358.out 1; have hfz18_2 := blk_frozen BK358.out 2; have hnb19 := NB356_355.out; have hnc19 := NB355_356.out; have hcz20_0 : w15.cell? ⟨gb356, 0, none⟩ = some (.int .i64 ((rd_T49 l0 x11_1).f0)) := (blk_cell BK356.out 0).trans rfl; have hcz20_1 : w15.cell? ⟨gb356, 1, none⟩ = some (.int .i64 ((rd_T49 l0 x11_1).f1)) := (blk_cell BK356.out 1).trans rfl; have hcz20_2 : w15.cell? ⟨gb356, 2, none⟩ = some (.int .i64 ((rd_T49 l0 x11_1).f2)) := (blk_cell BK356.out 2).trans rfl; have hcz20_3 : w15.cell? ⟨gb356, 3, none⟩ = some (u357003) := (blk_cell BK356.out 3).trans rfl; have hfz20_0 := blk_frozen BK356.out 0; have hfz20_1 := blk_frozen BK356.out 1; have hfz20_2 := blk_frozen BK356.out 2; have hfz20_3 := blk_frozen BK356.out 3) | ((with_reducible refine gate_builtin (b := .append) (xs := #[.tmp 30, .tmp 38]) rfl ?_); at_builtin; refine Kd.R_append k94 (w0 := w) w.heap.size rfl (.tmp 30) (.tmp 38) 91 94 (.agg #[(.int .i64 0), (.int .i64 0), (.int .i64 0)]) 24 rfl Try.underlying91 info94 rfl (by decide) (by omega) u357003 x357003_2 (⟨(rd_T68 ((rd_T49 l0 x11_1).f3) x25_2).f0, (rd_T68 ((rd_T49 l0 x11_1).f3) x25_2).f1, (rd_T68 ((rd_T49 l0 x11_1).f3) x25_2).f2⟩ : S94) [.int .i64 ((rd_T68 ((rd_T49 l0 x11_1).f3) x25_2).f0), .int .i64 ((rd_T68 ((rd_T49 l0 x11_1).f3) x25_2).f1), .int .i64 ((rd_T68 ((rd_T49 l0 x11_1).f3) x25_2).f2)] (fun _ => True) (fun _ => False) rfl (by first | (go_simp; done) | (go_simp; rfl)) ?aP (fun _ hk => hk.elim) ?aF ?aO ?aB ?aS ?aL ?_; (case aP => exact k94_mkM _ _ _ (⟨(rd_T68 ((rd_T49 l0 x11_1).f3) x25_2).f0, (rd_T68 ((rd_T49 l0 x11_1).f3) x25_2).f1, (rd_T68 ((rd_T49 l0 x11_1).f3) x25_2).f2⟩ : S94)); (case aB => exact (by repeat (first | (with_reducible first | exact HB.out | apply below_alloc | apply pw_below_drewN | apply below_drew1 | refine below_set ?_ GE355.out | refine below_set ?_ GE356.out | refine below_set ?_ GE358.out) | exact HB.out))); (case aF => exact (fun _ _ => trivial)); (case aO => exact (by (with_reducible repeat (first | apply Kd.R_alloc | apply Kd.R_drewN | apply Kd.R_drew)); exact Kd.R_mono (Kd.R_far (p := ⟨gb358, 2, none⟩) (Kd.R_far (p := ⟨gb358, 1, none⟩) (Kd.R_far (p := ⟨gb358, 0, none⟩) (Kd.R_types HO_357003.out BK358.out (by decide)) (fun _ hk => hk.2) (.int .i64 ((rd_T68 ((rd_T49 l0 x11_1).f3) x25_2).f0))) (fun _ hk => hk.2) (.int .i64 ((rd_T68 ((rd_T49 l0 x11_1).f3) x25_2).f1))) (fun _ hk => hk.2) (.int .i64 ((rd_T68 ((rd_T49 l0 x11_1).f3) x25_2).f2))) (fun _ hk => trivial))); (case aS => exact (below_size (by repeat (first | (with_reducible first | exact HB.out | apply below_alloc | apply pw_below_drewN | apply below_drew1 | refine below_set ?_ GE355.out | refine below_set ?_ GE356.out | refine below_set ?_ GE358.out) | exact HB.out)))); (case aL => have := LMc14.out; omega); intro v360 w21 ho hb hg hat; rw [← Ny359.out] at ho; have n0_ := Aside0.mk (Kd.S_after (ok := (fun k_ => k_ ≠ gb356)) (by (with_reducible repeat (first | apply Kd.S_alloc | apply Kd.S_drewN | apply Kd.S_drew)); exact Kd.S_mono (Kd.S_far (p := ⟨gb358, 2, none⟩) (Kd.S_far (p := ⟨gb358, 1, none⟩) (Kd.S_far (p := ⟨gb358, 0, none⟩) (Kd.S_types HO_3.out BK358.out (by decide)) (fun _ hk => hk.2) (.int .i64 ((rd_T68 ((rd_T49 l0 x11_1).f3) x25_2).f0))) (fun _ hk => hk.2) (.int .i64 ((rd_T68 ((rd_T49 l0 x11_1).f3) x25_2).f1))) (fun _ hk => hk.2) (.int .i64 ((rd_T68 ((rd_T49 l0 x11_1).f3) x25_2).f2))) (fun _ hk => ⟨hk.1.2, hk.1.1⟩)) hg hat); have n1_ := Aside0.mk (blk_grown (g := gb355) (o := .cells #[.int .i64 ((rd_T49 l0 x11_1).f0), .int .i64 ((rd_T49 l0 x11_1).f1), .int .i64 ((rd_T49 l0 x11_1).f2), .slice (some ad357) ((rd_T49 l0 x11_1).f3).length c354_3] 49 (0, 0)) (by (with_reducible repeat (first | refine blk_drewN ?_ _ | refine blk_drew ?_ | refine blk_alloc ?_ _)); refine blk_far ?_ NB355_358.out _; (with_reducible repeat (first | refine blk_drewN ?_ _ | refine blk_drew ?_ | refine blk_alloc ?_ _)); refine blk_far ?_ NB355_358.out _; (with_reducible repeat (first | refine blk_drewN ?_ _ | refine blk_drew ?_ | refine blk_alloc ?_ _)); refine blk_far ?_ NB355_358.out _; (with_reducible repeat (first | refine blk_drewN ?_ _ | refine blk_drew ?_ | refine blk_alloc ?_ _)); exact BK355.out) hg (Kd.R_ne HO_357003.out BK355.out (by decide))); have n2_ := Aside0.mk (blk_grown (g := gb356) (o := .cells #[.int .i64 ((rd_T49 l0 x11_1).f0), .int .i64 ((rd_T49 l0 x11_1).f1), .int .i64 ((rd_T49 l0 x11_1).f2), u357003] 93 (0, 0)) (by (with_reducible repeat (first | refine blk_drewN ?_ _ | refine blk_drew ?_ | refine blk_alloc ?_ _)); refine blk_far ?_ NB356_358.out _; (with_reducible repeat (first | refine blk_drewN ?_ _ | refine blk_drew ?_ | refine blk_alloc ?_ _)); refine blk_far ?_ NB356_358.out _; (with_reducible repeat (first | refine blk_drewN ?_ _ | refine blk_drew ?_ | refine blk_alloc ?_ _)); refine blk_far ?_ NB356_358.out _; (with_reducible repeat (first | refine blk_drewN ?_ _ | refine blk_drew ?_ | refine blk_alloc ?_ _)); exact BK356.out) hg (Kd.R_ne HO_357003.out BK356.out (by decide))); have n3_ := Aside0.mk (blk_grown (g := gb358) (o := .cells #[.int .i64 ((rd_T68 ((rd_T49 l0 x11_1).f3) x25_2).f0), .int .i64 ((rd_T68 ((rd_T49 l0 x11_1).f3) x25_2).f1), .int .i64 ((rd_T68 ((rd_T49 l0 x11_1).f3) x25_2).f2)] 68 (0, 0)) (by (with_reducible repeat (first | refine blk_drewN ?_ _ | refine blk_drew ?_ | refine blk_alloc ?_ _)); refine blk_put (cs := #[.int .i64 ((rd_T68 ((rd_T49 l0 x11_1).f3) x25_2).f0), .int .i64 ((rd_T68 ((rd_T49 l0 x11_1).f3) x25_2).f1), .int .i64 0]) ?_ 2 _ rfl; (with_reducible repeat (first | refine blk_drewN ?_ _ | refine blk_drew ?_ | refine blk_alloc ?_ _)); refine blk_put (cs := #[.int .i64 ((rd_T68 ((rd_T49 l0 x11_1).f3) x25_2).f0), .int .i64 0, .int .i64 0]) ?_ 1 _ rfl; (with_reducible repeat (first | refine blk_drewN ?_ _ | refine blk_drew ?_ | refine blk_alloc ?_ _)); refine blk_put (cs := #[.int .i64 0, .int .i64 0, .int .i64 0]) ?_ 0 _ rfl; (with_reducible repeat (first | refine blk_drewN ?_ _ | refine blk_drew ?_ | refine blk_alloc ?_ _)); exact BK358.out) hg (Kd.R_ne HO_357003.out BK358.out (by decide))); have n4_ := Aside0.mk (hb); have n5_ := Aside0.mk (ho); clear HO_3; clear BK355; clear BK356; clear BK358; clear HB; clear HO_357003; have HO_3 := n0_; have BK355 := n1_; have BK356 := n2_; have BK358 := n3_; have HB := n4_; have HO361 := n5_; clear n0_ n1_ n2_ n3_ n4_ n5_; clear ho hb hg hat; obtain ⟨Ao22, co22, eo22⟩ := Kd.R_slice HO361.out; subst eo22; have hcz23_0 : w21.cell? ⟨gb356, 0, none⟩ = some (.int .i64 ((rd_T49 l0 x11_1).f0)) := (blk_cell BK356.out 0).trans rfl; have hcz23_1 : w21.cell? ⟨gb356, 1, none⟩ = some (.int .i64 ((rd_T49 l0 x11_1).f1)) := (blk_cell BK356.out 1).trans rfl; have hcz23_2 : w21.cell? ⟨gb356, 2, none⟩ = some (.int .i64 ((rd_T49 l0 x11_1).f2)) := (blk_cell BK356.out 2).trans rfl; have hcz23_3 : w21.cell? ⟨gb356, 3, none⟩ = some (u357003) := (blk_cell BK356.out 3).trans rfl; have hfz23_0 := blk_frozen BK356.out 0; have hfz23_1 := blk_frozen BK356.out 1; have hfz23_2 := blk_frozen BK356.out 2; have hfz23_3 := blk_frozen BK356.out 3))
                        go_roundg k2
                        case measure => have := HK1.out; have := HK2.out; omega
                        case rel => exact ⟨(wrap64 (x25_2 + 1)), (y359), (.slice Ao22 y359.length co22), (by first | rfl | (simp; done) | (simp [*]; done)), H', ⟨by have := HK1.out; have := HK2.out; omega⟩, ⟨by (with_reducible repeat (first | apply Kd.S_alloc | apply Kd.S_drewN | apply Kd.S_drew)); exact Kd.S_mono (Kd.S_far (p := ⟨gb356, 3, none⟩) (Kd.S_mono HO_3.out (fun k_ hk => (⟨hk, hk.1⟩ : _ ∧ k_ ≠ gb356))) (fun _ hk => hk.2) (.slice Ao22 y359.length co22)) (fun _ hk => ⟨hk.1.2, hk.1.1⟩)⟩, ⟨by (with_reducible repeat (first | apply Kd.R_alloc | apply Kd.R_drewN | apply Kd.R_drew)); exact Kd.R_mono (Kd.R_far (p := ⟨gb356, 3, none⟩) (Kd.R_types HO361.out BK356.out (by decide)) (fun _ hk => hk.2) (.slice Ao22 y359.length co22)) (fun _ hk => trivial)⟩, ⟨by (with_reducible repeat (first | refine blk_drewN ?_ _ | refine blk_drew ?_ | refine blk_alloc ?_ _)); refine blk_far ?_ NB355_356.out _; (with_reducible repeat (first | refine blk_drewN ?_ _ | refine blk_drew ?_ | refine blk_alloc ?_ _)); exact BK355.out⟩, ⟨by (with_reducible repeat (first | refine blk_drewN ?_ _ | refine blk_drew ?_ | refine blk_alloc ?_ _)); refine blk_put (cs := #[.int .i64 ((rd_T49 l0 x11_1).f0), .int .i64 ((rd_T49 l0 x11_1).f1), .int .i64 ((rd_T49 l0 x11_1).f2), u357003]) ?_ 3 _ rfl; (with_reducible repeat (first | refine blk_drewN ?_ _ | refine blk_drew ?_ | refine blk_alloc ?_ _)); exact BK356.out⟩, ⟨by repeat (first | (with_reducible first | exact HB.out | apply below_alloc | apply pw_below_drewN | apply below_drew1 | refine below_set ?_ GE355.out | refine below_set ?_ GE356.out | refine below_set ?_ GE358.out) | exact HB.out)⟩⟩
                      · rw [if_neg c14] at H
                        exact absurd H (by simp)
                    · rw [if_neg c13] at H
                      exact absurd H (by simp)
                  · rw [if_neg c12] at H
                    exact absurd H (by simp)
                · rw [if_neg c11] at H
                  have c11b0 : decide (x25_2 < (((rd_T49 l0 x11_1).f3).length : Int)) = false := decide_eq_false c11
                  clear c11
                  by_cases c24 : x3_1.length < 2932031007402
                  · rw [if_pos c24] at H
                    have LMc24 := Aside0.mk c24
                    clear c24
                    obtain ⟨y362, hy362⟩ : ∃ y_ : List (S93), y_ = (x3_1 ++ [(⟨((rd_T49 l0 x11_1).f0), ((rd_T49 l0 x11_1).f1), ((rd_T49 l0 x11_1).f2), x357003_2⟩ : S93)]) := ⟨_, rfl⟩
                    replace H : (ontimelaw43_plain.l0 k2 y362 l0 (l0.length : Int) (wrap64 (x11_1 + 1))) = some r := by first | (rw [hy362]; with_reducible exact H) | (have H2_ := (Option.bind_some _ _).symm.trans H; rw [hy362]; with_reducible exact H2_) | (have H2_ := (Option.bind_some _ _).symm.trans H; with_reducible exact H2_) | with_reducible exact H | (rw [hy362]; exact H) | exact H
                    have Ny362 := Aside0.mk hy362
                    clear hy362
                    have H' := Aside0.mk H
                    clear H
                    have hnb25 := NB356_355.out
                    have hnc25 := NB355_356.out
                    have hcz26_0 : wr.cell? ⟨gb356, 0, none⟩ = some (.int .i64 ((rd_T49 l0 x11_1).f0)) := (blk_cell BK356.out 0).trans rfl
                    have hcz26_1 : wr.cell? ⟨gb356, 1, none⟩ = some (.int .i64 ((rd_T49 l0 x11_1).f1)) := (blk_cell BK356.out 1).trans rfl
                    have hcz26_2 : wr.cell? ⟨gb356, 2, none⟩ = some (.int .i64 ((rd_T49 l0 x11_1).f2)) := (blk_cell BK356.out 2).trans rfl
                    have hcz26_3 : wr.cell? ⟨gb356, 3, none⟩ = some (u357003) := (blk_cell BK356.out 3).trans rfl
                    have hfz26_0 := blk_frozen BK356.out 0
                    have hfz26_1 := blk_frozen BK356.out 1
                    have hfz26_2 := blk_frozen BK356.out 2
                    have hfz26_3 := blk_frozen BK356.out 3
                    obtain ⟨Ao28, co28, eo28⟩ := Kd.R_slice HO_357003.out
                    subst eo28
                    go_wp2_with (first | ((with_reducible refine gate_builtin (b := .append) (xs := #[.tmp 42, .tmp 44]) rfl ?_); at_builtin; refine Kd.S_append k93 (w0 := w) w.heap.size rfl (.tmp 42) (.tmp 44) 43 93 (.agg #[(.int .i64 0), (.int .i64 0), (.int .i64 0), (.slice none 0 0)]) 48 rfl Try.underlying43 info93 rfl (by decide) (by omega) u3 x3_1 (⟨((rd_T49 l0 x11_1).f0), ((rd_T49 l0 x11_1).f1), ((rd_T49 l0 x11_1).f2), x357003_2⟩ : S93) [.int .i64 ((rd_T49 l0 x11_1).f0), .int .i64 ((rd_T49 l0 x11_1).f1), .int .i64 ((rd_T49 l0 x11_1).f2), .slice Ao28 x357003_2.length co28] (fun k_ => k_ ≠ gb356) (fun k_ => some k_ = (.slice Ao28 x357003_2.length co28 : Value).ownBlock) rfl rfl ?aP (fun k_ hk_ => ((Kd.R_mono (ok' := fun k_ => ((fun k_ => k_ ≠ gb356)) k_ ∧ some k_ ≠ (u3 : Value).ownBlock) (Kd.R_types (Kd.R_apart' (HO_357003.out) (Kd.S_typed HO_3.out) (by decide)) BK356.out (by decide)) (fun k_ hk => ⟨hk.2, hk.1.2⟩))).1 k_ hk_.symm) ?aF ?aO ?aB ?aS ?aL ?_; (case aP => exact k93_mkM _ _ _ (⟨((rd_T49 l0 x11_1).f0), ((rd_T49 l0 x11_1).f1), ((rd_T49 l0 x11_1).f2), x357003_2⟩ : S93) (Kd.R_mono (Kd.R_tight rfl (Kd.R_mono (ok' := fun k_ => ((fun k_ => k_ ≠ gb356)) k_ ∧ some k_ ≠ (u3 : Value).ownBlock) (Kd.R_types (Kd.R_apart' (HO_357003.out) (Kd.S_typed HO_3.out) (by decide)) BK356.out (by decide)) (fun k_ hk => ⟨hk.2, hk.1.2⟩))) (fun _ h_ => h_))); (case aB => exact (by repeat (first | (with_reducible first | exact HB.out | apply below_alloc | apply pw_below_drewN | apply below_drew1 | refine below_set ?_ GE355.out | refine below_set ?_ GE356.out) | exact HB.out))); (case aF => exact (fun k_ hk => Kd.freshB (g := gb356) (o := .cells #[.int .i64 ((rd_T49 l0 x11_1).f0), .int .i64 ((rd_T49 l0 x11_1).f1), .int .i64 ((rd_T49 l0 x11_1).f2), .slice Ao28 x357003_2.length co28] 93 (0, 0)) (by (with_reducible repeat (first | refine blk_drewN ?_ _ | refine blk_drew ?_ | refine blk_alloc ?_ _)); exact BK356.out) k_ hk)); (case aO => exact (by (with_reducible repeat (first | apply Kd.S_alloc | apply Kd.S_drewN | apply Kd.S_drew)); exact Kd.S_mono HO_3.out (fun k_ hk => ⟨hk.2, fun e_ => hk.1 e_⟩))); (case aS => exact (below_size (by repeat (first | (with_reducible first | exact HB.out | apply below_alloc | apply pw_below_drewN | apply below_drew1 | refine below_set ?_ GE355.out | refine below_set ?_ GE356.out) | exact HB.out)))); (case aL => have := LMc24.out; omega); intro v363 w27 ho hb hg hat; rw [← Ny362.out] at ho; have n0_ := Aside0.mk (blk_grown (g := gb355) (o := .cells #[.int .i64 ((rd_T49 l0 x11_1).f0), .int .i64 ((rd_T49 l0 x11_1).f1), .int .i64 ((rd_T49 l0 x11_1).f2), .slice A354_3 ((rd_T49 l0 x11_1).f3).length c354_3] 49 (0, 0)) (by (with_reducible repeat (first | refine blk_drewN ?_ _ | refine blk_drew ?_ | refine blk_alloc ?_ _)); exact BK355.out) hg (Kd.S_ne HO_3.out BK355.out (by decide))); have n1_ := Aside0.mk (blk_grown (g := gb356) (o := .cells #[.int .i64 ((rd_T49 l0 x11_1).f0), .int .i64 ((rd_T49 l0 x11_1).f1), .int .i64 ((rd_T49 l0 x11_1).f2), .slice Ao28 x357003_2.length co28] 93 (0, 0)) (by (with_reducible repeat (first | refine blk_drewN ?_ _ | refine blk_drew ?_ | refine blk_alloc ?_ _)); exact BK356.out) hg (Kd.S_away HO_3.out (fun _ hk => hk.2))); have n2_ := Aside0.mk (hb); have n3_ := Aside0.mk (ho); clear BK355; clear BK356; clear HB; clear HO_3; clear HO_357003; have BK355 := n0_; have BK356 := n1_; have HB := n2_; have HO364 := n3_; clear n0_ n1_ n2_ n3_; clear ho hb hg hat))
                    go_roundg k2
                    case measure => have := HK1.out; have := HK2.out; omega
                    case rel => exact ⟨(y362), (wrap64 (x11_1 + 1)), (by first | rfl | (simp; done) | (simp [*]; done)), H', ⟨by have := HK1.out; have := HK2.out; omega⟩, ⟨by (with_reducible repeat (first | apply Kd.S_alloc | apply Kd.S_drewN | apply Kd.S_drew)); exact Kd.S_mono HO364.out (fun _ hk => trivial)⟩, ⟨by repeat (first | (with_reducible first | exact HB.out | apply below_alloc | apply pw_below_drewN | apply below_drew1 | refine below_set ?_ GE355.out | refine below_set ?_ GE356.out) | exact HB.out)⟩⟩
                  · rw [if_neg c24] at H
                    exact absurd H (by simp)
          · rw [if_neg c4] at H
            exact absurd H (by simp)
        · rw [if_neg c3] at H
          exact absurd H (by simp)
      · rw [if_neg c2] at H
        have c2b0 : decide (x11_1 < (l0.length : Int)) = false := decide_eq_false c2
        clear c2
        obtain rfl := Option.some.inj H
        go_wp2
        go_ret
        exact ⟨_, by first | rfl | (simp [errW_none, errW_some] <;> rfl) | (simp [*, errW_none, errW_some] <;> rfl), by (with_reducible repeat (first | apply Kd.S_alloc | apply Kd.S_drewN | apply Kd.S_drew)); exact HO_3.out, by repeat (first | (with_reducible first | exact HB.out | apply below_alloc | apply pw_below_drewN | apply below_drew1) | exact HB.out)⟩

end Go.Proofs.Ytcmifojplgmgkaa.P
