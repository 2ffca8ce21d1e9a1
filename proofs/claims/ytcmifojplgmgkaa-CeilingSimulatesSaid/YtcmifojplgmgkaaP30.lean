-- written by wip/drive.py (a driver of this session's own over the kit's print.py)
import Derived.Test.YtcmifojplgmgkaaP0
namespace Go.Proofs.Ytcmifojplgmgkaa.P
open Go.RowKit Go.Proofs.YtcmifojplgmgkaaW.PrintWords Go.Proofs.YtcmifojplgmgkaaW.PrintLast Go.Proofs.YtcmifojplgmgkaaW.PrintMore
attribute [local go_sem] max2_int min2_int max_two min_two max_three min_three max_four min_four   -- for this text's walks alone
set_option linter.unusedVariables false
set_option linter.unusedSimpArgs false

/-! ### ontimeref43_Spaced: function 37 -/
mutual
def ontimeref43_Spaced.l0 : Nat → List (S93) → List (List Int) → Int → Option (Bool)
  | 0, _, _, _ => none
  | k + 1, x0, x1, x5 => if x5 < (x0.length : Int) then (ontimeref43_Spaced.l1 k x0 x1 x5 0) else (some true)
def ontimeref43_Spaced.l1 : Nat → List (S93) → List (List Int) → Int → Int → Option (Bool)
  | 0, _, _, _, _ => none
  | k + 1, x0, x1, x5, x6 => if 0 ≤ x5 then (if x5 < (x1.length : Int) then (if x6 < ((rd_L5 x1 x5).length : Int) then (if 0 ≤ x6 then (if (rd (rd_L5 x1 x5) x6) < 0 then (some false) else (if x6 > 0 then (if 0 ≤ (wrap64 (x6 - 1)) then (if (wrap64 (x6 - 1)) < ((rd_L5 x1 x5).length : Int) then (if x5 < (x0.length : Int) then (if (wrap64 ((rd (rd_L5 x1 x5) x6) - (rd (rd_L5 x1 x5) (wrap64 (x6 - 1))))) < ((rd_T93 x0 x5).f1) then (some false) else (ontimeref43_Spaced.l1 k x0 x1 x5 (wrap64 (x6 + 1)))) else (none)) else (none)) else (none)) else (ontimeref43_Spaced.l1 k x0 x1 x5 (wrap64 (x6 + 1))))) else (none)) else (ontimeref43_Spaced.l0 k x0 x1 (wrap64 (x5 + 1)))) else (none)) else (none)
end
def ontimeref43_Spaced.f (k : Nat) (l0 : List (S93)) (l1 : List (List Int)) : Option (Bool) := ontimeref43_Spaced.l0 k l0 l1 0
theorem ontimeref43_Spaced.mono_l : ∀ k, (∀ y0 y1 y2, LeO (ontimeref43_Spaced.l0 k y0 y1 y2) (ontimeref43_Spaced.l0 (k + 1) y0 y1 y2)) ∧ (∀ y0 y1 y2 y3, LeO (ontimeref43_Spaced.l1 k y0 y1 y2 y3) (ontimeref43_Spaced.l1 (k + 1) y0 y1 y2 y3))
  | 0 => ⟨fun _ _ _ r h => by simp [ontimeref43_Spaced.l0] at h, fun _ _ _ _ r h => by simp [ontimeref43_Spaced.l1] at h⟩
  | k + 1 => by
    obtain ⟨ih0, ih1⟩ := ontimeref43_Spaced.mono_l k
    refine ⟨?_, ?_⟩
    · intro y0 y1 y2
      unfold ontimeref43_Spaced.l0
      repeat' first
      | (with_reducible exact ih0 _ _ _)
      | (with_reducible exact ih1 _ _ _ _)
      | (with_reducible exact LeO.refl _)
      | (with_reducible exact LeO.none _)
      | (with_reducible refine LeO.ite ?_ ?_)
      | (with_reducible refine LeO.bind ?_ (fun _ => ?_))
      | exact ih0 _ _ _
      | exact ih1 _ _ _ _
      | exact LeO.none _
      | refine LeO.ite ?_ ?_
      | refine LeO.bind ?_ (fun _ => ?_)
    · intro y0 y1 y2 y3
      unfold ontimeref43_Spaced.l1
      repeat' first
      | (with_reducible exact ih0 _ _ _)
      | (with_reducible exact ih1 _ _ _ _)
      | (with_reducible exact LeO.refl _)
      | (with_reducible exact LeO.none _)
      | (with_reducible refine LeO.ite ?_ ?_)
      | (with_reducible refine LeO.bind ?_ (fun _ => ?_))
      | exact ih0 _ _ _
      | exact ih1 _ _ _ _
      | exact LeO.none _
      | refine LeO.ite ?_ ?_
      | refine LeO.bind ?_ (fun _ => ?_)
theorem ontimeref43_Spaced.mono : ∀ a0 a1 k, LeO (ontimeref43_Spaced.f k a0 a1) (ontimeref43_Spaced.f (k + 1) a0 a1) := by
  intro a0 a1 k
  obtain ⟨ih0, ih1⟩ := ontimeref43_Spaced.mono_l k
  unfold ontimeref43_Spaced.f
  repeat' first
      | (with_reducible exact ih0 _ _ _)
      | (with_reducible exact ih1 _ _ _ _)
      | (with_reducible exact LeO.refl _)
      | (with_reducible exact LeO.none _)
      | (with_reducible refine LeO.ite ?_ ?_)
      | (with_reducible refine LeO.bind ?_ (fun _ => ?_))
      | exact ih0 _ _ _
      | exact ih1 _ _ _ _
      | exact LeO.none _
      | refine LeO.ite ?_ ?_
      | refine LeO.bind ?_ (fun _ => ?_)
set_option maxHeartbeats 8000000 in
set_option maxRecDepth 100000 in
theorem ontimeref43_Spaced.calls (k : Nat) (A0 : Option Addr) (c0 : Nat) (l0 : List (S93)) (A1 : Option Addr) (c1 : Nat) (l1 : List (List Int)) (r : Bool) (w : World) (hr0 : Kd.C k93 w A0 l0.length l0) (hc0 : l0.length ≤ c0) (hr1 : Kd.C (Kd.slice 3 (Kd.int .i64)) w A1 l1.length l1) (hc1 : l1.length ≤ c1) (h : ontimeref43_Spaced.f k l0 l1 = some r) :
    Calls Try.prog 37 #[.slice A0 l0.length c0, .slice A1 l1.length c1] w fun e w' => e = .returned (.bool r) ∧ Drawn0 w w' := by
  have HR0 := Aside0.mk hr0
  have HC0 := Aside0.mk hc0
  clear hr0 hc0
  have HR1 := Aside0.mk hr1
  have HC1 := Aside0.mk hc1
  clear hr1 hc1
  have H : (ontimeref43_Spaced.l0 k l0 l1 0) = some r := h
  clear h
  have H' := Aside0.mk H
  clear H
  go_enter Try.func37, Try.ntmps37
  go_wp2
  repeat (go_quiet (fail); try go_wp2)
  go_loopg [5] k (fun kq v5 w' => ∃ (x5_1 : Int), v5 = .int .i64 x5_1 ∧ Aside0 (ontimeref43_Spaced.l0 kq l0 l1 x5_1 = some r) ∧ Aside0 (kq ≤ k) ∧ Drawn0 w w')
  case atStart => exact ⟨(0), (by first | rfl | (simp; done) | (simp [*]; done)), H', ⟨Nat.le_refl _⟩, by repeat (first | exact Drawn0.refl _ | apply Drawn0.step)⟩
  case round =>
    clear H'
    try clear c1
    try clear p2
    obtain ⟨x5_1, rfl, HA, HK1, ⟨m1, rfl⟩⟩ := hrel
    cases gk with
    | zero => exact absurd HA.out (by simp [ontimeref43_Spaced.l0])
    | succ k1 =>
      have H := HA.out
      clear HA
      simp only [ontimeref43_Spaced.l0] at H
      by_cases c3 : x5_1 < (l0.length : Int)
      · rw [if_pos c3] at H
        have c3b0 : decide (x5_1 < (l0.length : Int)) = true := decide_eq_true c3
        clear c3
        have H' := Aside0.mk H
        clear H
        go_wp2
        repeat (go_quiet (fail); try go_wp2)
        go_loopg [6] k1 (fun kq v6 w' => ∃ (x6_2 : Int), v6 = .int .i64 x6_2 ∧ Aside0 (ontimeref43_Spaced.l1 kq l0 l1 x5_1 x6_2 = some r) ∧ Aside0 (kq ≤ k1) ∧ Drawn0 w w')
        case atStart => exact ⟨(0), (by first | rfl | (simp; done) | (simp [*]; done)), H', ⟨Nat.le_refl _⟩, by repeat (first | exact Drawn0.refl _ | apply Drawn0.step)⟩
        case round =>
          clear H'
          try clear c1
          try clear p2
          try clear c3
          try clear c3b0
          try clear p2
          obtain ⟨x6_2, rfl, HA, HK2, ⟨m2, rfl⟩⟩ := hrel
          cases gk with
          | zero => exact absurd HA.out (by simp [ontimeref43_Spaced.l1])
          | succ k2 =>
            have H := HA.out
            clear HA
            simp only [ontimeref43_Spaced.l1] at H
            by_cases c4 : 0 ≤ x5_1
            · rw [if_pos c4] at H
              have c4b0 : decide (0 ≤ x5_1) = true := decide_eq_true c4
              clear c4
              by_cases c5 : x5_1 < (l1.length : Int)
              · rw [if_pos c5] at H
                have c5b0 : decide (x5_1 < (l1.length : Int)) = true := decide_eq_true c5
                clear c5
                by_cases c6 : x6_2 < ((rd_L5 l1 x5_1).length : Int)
                · rw [if_pos c6] at H
                  have c6b0 : decide (x6_2 < ((rd_L5 l1 x5_1).length : Int)) = true := decide_eq_true c6
                  clear c6
                  by_cases c7 : 0 ≤ x6_2
                  · rw [if_pos c7] at H
                    have c7b0 : decide (0 ≤ x6_2) = true := decide_eq_true c7
                    clear c7
                    by_cases c8 : (rd (rd_L5 l1 x5_1) x6_2) < 0
                    · rw [if_pos c8] at H
                      have c8b0 : decide ((rd (rd_L5 l1 x5_1) x6_2) < 0) = true := decide_eq_true c8
                      clear c8
                      obtain rfl := Option.some.inj H
                      have p355 : 0 ≤ (x5_1 : Int) := of_decide_eq_true (by first | (with_reducible assumption) | assumption)
                      have q355 : x5_1 < (l1.length : Int) := of_decide_eq_true (by first | (with_reducible assumption) | assumption)
                      obtain ⟨ad355, A355_0, c355_0, e355, hx355_0, hl355_0, hi355_0⟩ := at_L5 HR1.out x5_1 p355 q355
                      cases e355
                      have HR355_0 := Aside0.mk hi355_0
                      have HC355_0 := Aside0.mk hl355_0
                      clear hi355_0 hl355_0
                      replace p355 := eq_true p355
                      replace q355 := eq_true q355
                      have p356 : 0 ≤ (x5_1 : Int) := of_decide_eq_true (by first | (with_reducible assumption) | assumption)
                      have q356 : x5_1 < (l1.length : Int) := of_decide_eq_true (by first | (with_reducible assumption) | assumption)
                      obtain ⟨ad356, A356_0, c356_0, e356, hx356_0, hl356_0, hi356_0⟩ := at_L5 HR1.out x5_1 p356 q356
                      obtain rfl : ad355 = ad356 := (by injection e356)
                      have HR356_0 := Aside0.mk hi356_0
                      have HC356_0 := Aside0.mk hl356_0
                      clear hi356_0 hl356_0
                      replace p356 := eq_true p356
                      replace q356 := eq_true q356
                      have ea_ := Option.some.inj (hx355_0.symm.trans hx356_0)
                      injection ea_ with ea_ en_ ec_
                      subst ea_
                      subst ec_
                      clear en_
                      have p357 : 0 ≤ (x6_2 : Int) := of_decide_eq_true (by first | (with_reducible assumption) | assumption)
                      have q357 : x6_2 < ((rd_L5 l1 x5_1).length : Int) := of_decide_eq_true (by first | (with_reducible assumption) | assumption)
                      obtain ⟨ad357, e357, hx357_0⟩ := Kd.at_int HR356_0.out x6_2 p357 q357
                      cases e357
                      replace p357 := eq_true p357
                      replace q357 := eq_true q357
                      go_wp2
                      repeat (go_quiet (fail); try go_wp2)
                      go_ret
                      exact ⟨by first | rfl | (simp; done) | (simp [*]; done), by repeat (first | exact Drawn0.refl _ | apply Drawn0.step)⟩
                    · rw [if_neg c8] at H
                      have c8b0 : decide ((rd (rd_L5 l1 x5_1) x6_2) < 0) = false := decide_eq_false c8
                      clear c8
                      by_cases c9 : x6_2 > 0
                      · rw [if_pos c9] at H
                        have c9b0 : decide (0 < x6_2) = true := decide_eq_true c9
                        clear c9
                        obtain ⟨ji10, hji10⟩ : ∃ j_ : Int, (wrap64 (x6_2 - 1)) = j_ := ⟨_, rfl⟩
                        replace H : (if 0 ≤ (ji10) then (if (ji10) < ((rd_L5 l1 x5_1).length : Int) then (if x5_1 < (l0.length : Int) then (if (wrap64 ((rd (rd_L5 l1 x5_1) x6_2) - (rd (rd_L5 l1 x5_1) (ji10)))) < ((rd_T93 l0 x5_1).f1) then (some false) else (ontimeref43_Spaced.l1 k2 l0 l1 x5_1 (wrap64 (x6_2 + 1)))) else (none)) else (none)) else (none)) = some r := by first | (rw [hji10] at H; exact H) | (simp only [hji10] at H ⊢; exact H)
                        have hji10w : (IntKind.i64.wrap (x6_2 - 1)) = ji10 := (i64_w _).trans hji10
                        by_cases c11 : 0 ≤ (ji10)
                        · rw [if_pos c11] at H
                          have c11b0 : decide (0 ≤ (ji10)) = true := decide_eq_true c11
                          clear c11
                          by_cases c12 : (ji10) < ((rd_L5 l1 x5_1).length : Int)
                          · rw [if_pos c12] at H
                            have c12b0 : decide ((ji10) < ((rd_L5 l1 x5_1).length : Int)) = true := decide_eq_true c12
                            clear c12
                            by_cases c13 : x5_1 < (l0.length : Int)
                            · rw [if_pos c13] at H
                              have c13b0 : decide (x5_1 < (l0.length : Int)) = true := decide_eq_true c13
                              clear c13
                              by_cases c14 : (wrap64 ((rd (rd_L5 l1 x5_1) x6_2) - (rd (rd_L5 l1 x5_1) (ji10)))) < ((rd_T93 l0 x5_1).f1)
                              · rw [if_pos c14] at H
                                have c14b0 : decide ((wrap64 ((rd (rd_L5 l1 x5_1) x6_2) - (rd (rd_L5 l1 x5_1) (ji10)))) < ((rd_T93 l0 x5_1).f1)) = true := decide_eq_true c14
                                clear c14
                                obtain rfl := Option.some.inj H
                                have p355 : 0 ≤ (x5_1 : Int) := of_decide_eq_true (by first | (with_reducible assumption) | assumption)
                                have q355 : x5_1 < (l1.length : Int) := of_decide_eq_true (by first | (with_reducible assumption) | assumption)
                                obtain ⟨ad355, A355_0, c355_0, e355, hx355_0, hl355_0, hi355_0⟩ := at_L5 HR1.out x5_1 p355 q355
                                cases e355
                                have HR355_0 := Aside0.mk hi355_0
                                have HC355_0 := Aside0.mk hl355_0
                                clear hi355_0 hl355_0
                                replace p355 := eq_true p355
                                replace q355 := eq_true q355
                                have p356 : 0 ≤ (x5_1 : Int) := of_decide_eq_true (by first | (with_reducible assumption) | assumption)
                                have q356 : x5_1 < (l1.length : Int) := of_decide_eq_true (by first | (with_reducible assumption) | assumption)
                                obtain ⟨ad356, A356_0, c356_0, e356, hx356_0, hl356_0, hi356_0⟩ := at_L5 HR1.out x5_1 p356 q356
                                obtain rfl : ad355 = ad356 := (by injection e356)
                                have HR356_0 := Aside0.mk hi356_0
                                have HC356_0 := Aside0.mk hl356_0
                                clear hi356_0 hl356_0
                                replace p356 := eq_true p356
                                replace q356 := eq_true q356
                                have ea_ := Option.some.inj (hx355_0.symm.trans hx356_0)
                                injection ea_ with ea_ en_ ec_
                                subst ea_
                                subst ec_
                                clear en_
                                have p357 : 0 ≤ (x6_2 : Int) := of_decide_eq_true (by first | (with_reducible assumption) | assumption)
                                have q357 : x6_2 < ((rd_L5 l1 x5_1).length : Int) := of_decide_eq_true (by first | (with_reducible assumption) | assumption)
                                obtain ⟨ad357, e357, hx357_0⟩ := Kd.at_int HR356_0.out x6_2 p357 q357
                                cases e357
                                replace p357 := eq_true p357
                                replace q357 := eq_true q357
                                have p358 : 0 ≤ (x5_1 : Int) := of_decide_eq_true (by first | (with_reducible assumption) | assumption)
                                have q358 : x5_1 < (l1.length : Int) := of_decide_eq_true (by first | (with_reducible assumption) | assumption)
                                obtain ⟨ad358, A358_0, c358_0, e358, hx358_0, hl358_0, hi358_0⟩ := at_L5 HR1.out x5_1 p358 q358
                                obtain rfl : ad355 = ad358 := (by injection e358)
                                have HR358_0 := Aside0.mk hi358_0
                                have HC358_0 := Aside0.mk hl358_0
                                clear hi358_0 hl358_0
                                replace p358 := eq_true p358
                                replace q358 := eq_true q358
                                have ea_ := Option.some.inj (hx355_0.symm.trans hx358_0)
                                injection ea_ with ea_ en_ ec_
                                subst ea_
                                subst ec_
                                clear en_
                                have p359 : 0 ≤ (x6_2 : Int) := of_decide_eq_true (by first | (with_reducible assumption) | assumption)
                                have q359 : x6_2 < ((rd_L5 l1 x5_1).length : Int) := of_decide_eq_true (by first | (with_reducible assumption) | assumption)
                                obtain ⟨ad359, e359, hx359_0⟩ := Kd.at_int HR358_0.out x6_2 p359 q359
                                cases e359
                                replace p359 := eq_true p359
                                replace q359 := eq_true q359
                                have p360 : 0 ≤ (x5_1 : Int) := of_decide_eq_true (by first | (with_reducible assumption) | assumption)
                                have q360 : x5_1 < (l1.length : Int) := of_decide_eq_true (by first | (with_reducible assumption) | assumption)
                                obtain ⟨ad360, A360_0, c360_0, e360, hx360_0, hl360_0, hi360_0⟩ := at_L5 HR1.out x5_1 p360 q360
                                obtain rfl : ad355 = ad360 := (by injection e360)
                                have HR360_0 := Aside0.mk hi360_0
                                have HC360_0 := Aside0.mk hl360_0
                                clear hi360_0 hl360_0
                                replace p360 := eq_true p360
                                replace q360 := eq_true q360
                                have ea_ := Option.some.inj (hx355_0.symm.trans hx360_0)
                                injection ea_ with ea_ en_ ec_
                                subst ea_
                                subst ec_
                                clear en_
                                have p361 : 0 ≤ ((ji10) : Int) := of_decide_eq_true (by first | (with_reducible assumption) | assumption)
                                have q361 : (ji10) < ((rd_L5 l1 x5_1).length : Int) := of_decide_eq_true (by first | (with_reducible assumption) | assumption)
                                obtain ⟨ad361, e361, hx361_0⟩ := Kd.at_int HR360_0.out (ji10) p361 q361
                                cases e361
                                replace p361 := eq_true p361
                                replace q361 := eq_true q361
                                have p362 : 0 ≤ (x5_1 : Int) := of_decide_eq_true (by first | (with_reducible assumption) | assumption)
                                have q362 : x5_1 < (l0.length : Int) := of_decide_eq_true (by first | (with_reducible assumption) | assumption)
                                obtain ⟨ad362, A362_3, c362_3, e362, hx362_0, hx362_1, hx362_2, hx362_3, hl362_3, hi362_3⟩ := at_T93 HR0.out x5_1 p362 q362
                                cases e362
                                have HR362_3 := Aside0.mk hi362_3
                                have HC362_3 := Aside0.mk hl362_3
                                clear hi362_3 hl362_3
                                replace p362 := eq_true p362
                                replace q362 := eq_true q362
                                go_wp2
                                repeat (go_quiet (fail); try go_wp2)
                                go_ret
                                exact ⟨by first | rfl | (simp; done) | (simp only [← hji10] <;> (first | rfl | simp)) | (simp [*]; done), by repeat (first | exact Drawn0.refl _ | apply Drawn0.step)⟩
                              · rw [if_neg c14] at H
                                have c14b0 : decide ((wrap64 ((rd (rd_L5 l1 x5_1) x6_2) - (rd (rd_L5 l1 x5_1) (ji10)))) < ((rd_T93 l0 x5_1).f1)) = false := decide_eq_false c14
                                clear c14
                                have H' := Aside0.mk H
                                clear H
                                have p355 : 0 ≤ (x5_1 : Int) := of_decide_eq_true (by first | (with_reducible assumption) | assumption)
                                have q355 : x5_1 < (l1.length : Int) := of_decide_eq_true (by first | (with_reducible assumption) | assumption)
                                obtain ⟨ad355, A355_0, c355_0, e355, hx355_0, hl355_0, hi355_0⟩ := at_L5 HR1.out x5_1 p355 q355
                                cases e355
                                have HR355_0 := Aside0.mk hi355_0
                                have HC355_0 := Aside0.mk hl355_0
                                clear hi355_0 hl355_0
                                replace p355 := eq_true p355
                                replace q355 := eq_true q355
                                have p356 : 0 ≤ (x5_1 : Int) := of_decide_eq_true (by first | (with_reducible assumption) | assumption)
                                have q356 : x5_1 < (l1.length : Int) := of_decide_eq_true (by first | (with_reducible assumption) | assumption)
                                obtain ⟨ad356, A356_0, c356_0, e356, hx356_0, hl356_0, hi356_0⟩ := at_L5 HR1.out x5_1 p356 q356
                                obtain rfl : ad355 = ad356 := (by injection e356)
                                have HR356_0 := Aside0.mk hi356_0
                                have HC356_0 := Aside0.mk hl356_0
                                clear hi356_0 hl356_0
                                replace p356 := eq_true p356
                                replace q356 := eq_true q356
                                have ea_ := Option.some.inj (hx355_0.symm.trans hx356_0)
                                injection ea_ with ea_ en_ ec_
                                subst ea_
                                subst ec_
                                clear en_
                                have p357 : 0 ≤ (x6_2 : Int) := of_decide_eq_true (by first | (with_reducible assumption) | assumption)
                                have q357 : x6_2 < ((rd_L5 l1 x5_1).length : Int) := of_decide_eq_true (by first | (with_reducible assumption) | assumption)
                                obtain ⟨ad357, e357, hx357_0⟩ := Kd.at_int HR356_0.out x6_2 p357 q357
                                cases e357
                                replace p357 := eq_true p357
                                replace q357 := eq_true q357
                                have p358 : 0 ≤ (x5_1 : Int) := of_decide_eq_true (by first | (with_reducible assumption) | assumption)
                                have q358 : x5_1 < (l1.length : Int) := of_decide_eq_true (by first | (with_reducible assumption) | assumption)
                                obtain ⟨ad358, A358_0, c358_0, e358, hx358_0, hl358_0, hi358_0⟩ := at_L5 HR1.out x5_1 p358 q358
                                obtain rfl : ad355 = ad358 := (by injection e358)
                                have HR358_0 := Aside0.mk hi358_0
                                have HC358_0 := Aside0.mk hl358_0
                                clear hi358_0 hl358_0
                                replace p358 := eq_true p358
                                replace q358 := eq_true q358
                                have ea_ := Option.some.inj (hx355_0.symm.trans hx358_0)
                                injection ea_ with ea_ en_ ec_
                                subst ea_
                                subst ec_
                                clear en_
                                have p359 : 0 ≤ (x6_2 : Int) := of_decide_eq_true (by first | (with_reducible assumption) | assumption)
                                have q359 : x6_2 < ((rd_L5 l1 x5_1).length : Int) := of_decide_eq_true (by first | (with_reducible assumption) | assumption)
                                obtain ⟨ad359, e359, hx359_0⟩ := Kd.at_int HR358_0.out x6_2 p359 q359
                                cases e359
                                replace p359 := eq_true p359
                                replace q359 := eq_true q359
                                have p360 : 0 ≤ (x5_1 : Int) := of_decide_eq_true (by first | (with_reducible assumption) | assumption)
                                have q360 : x5_1 < (l1.length : Int) := of_decide_eq_true (by first | (with_reducible assumption) | assumption)
                                obtain ⟨ad360, A360_0, c360_0, e360, hx360_0, hl360_0, hi360_0⟩ := at_L5 HR1.out x5_1 p360 q360
                                obtain rfl : ad355 = ad360 := (by injection e360)
                                have HR360_0 := Aside0.mk hi360_0
                                have HC360_0 := Aside0.mk hl360_0
                                clear hi360_0 hl360_0
                                replace p360 := eq_true p360
                                replace q360 := eq_true q360
                                have ea_ := Option.some.inj (hx355_0.symm.trans hx360_0)
                                injection ea_ with ea_ en_ ec_
                                subst ea_
                                subst ec_
                                clear en_
                                have p361 : 0 ≤ ((ji10) : Int) := of_decide_eq_true (by first | (with_reducible assumption) | assumption)
                                have q361 : (ji10) < ((rd_L5 l1 x5_1).length : Int) := of_decide_eq_true (by first | (with_reducible assumption) | assumption)
                                obtain ⟨ad361, e361, hx361_0⟩ := Kd.at_int HR360_0.out (ji10) p361 q361
                                cases e361
                                replace p361 := eq_true p361
                                replace q361 := eq_true q361
                                have p362 : 0 ≤ (x5_1 : Int) := of_decide_eq_true (by first | (with_reducible assumption) | assumption)
                                have q362 : x5_1 < (l0.length : Int) := of_decide_eq_true (by first | (with_reducible assumption) | assumption)
                                obtain ⟨ad362, A362_3, c362_3, e362, hx362_0, hx362_1, hx362_2, hx362_3, hl362_3, hi362_3⟩ := at_T93 HR0.out x5_1 p362 q362
                                cases e362
                                have HR362_3 := Aside0.mk hi362_3
                                have HC362_3 := Aside0.mk hl362_3
                                clear hi362_3 hl362_3
                                replace p362 := eq_true p362
                                replace q362 := eq_true q362
                                go_wp2
                                repeat (go_quiet (fail); try go_wp2)
                                go_roundg k2
                                case measure => have := HK1.out; have := HK2.out; omega
                                case rel => exact ⟨(wrap64 (x6_2 + 1)), (by first | rfl | (simp; done) | (simp [*]; done)), H', ⟨by have := HK1.out; have := HK2.out; omega⟩, by repeat (first | exact Drawn0.refl _ | apply Drawn0.step)⟩
                            · rw [if_neg c13] at H
                              exact absurd H (by simp)
                          · rw [if_neg c12] at H
                            exact absurd H (by simp)
                        · rw [if_neg c11] at H
                          exact absurd H (by simp)
                      · rw [if_neg c9] at H
                        have c9b0 : decide (0 < x6_2) = false := decide_eq_false c9
                        clear c9
                        have H' := Aside0.mk H
                        clear H
                        have p355 : 0 ≤ (x5_1 : Int) := of_decide_eq_true (by first | (with_reducible assumption) | assumption)
                        have q355 : x5_1 < (l1.length : Int) := of_decide_eq_true (by first | (with_reducible assumption) | assumption)
                        obtain ⟨ad355, A355_0, c355_0, e355, hx355_0, hl355_0, hi355_0⟩ := at_L5 HR1.out x5_1 p355 q355
                        cases e355
                        have HR355_0 := Aside0.mk hi355_0
                        have HC355_0 := Aside0.mk hl355_0
                        clear hi355_0 hl355_0
                        replace p355 := eq_true p355
                        replace q355 := eq_true q355
                        have p356 : 0 ≤ (x5_1 : Int) := of_decide_eq_true (by first | (with_reducible assumption) | assumption)
                        have q356 : x5_1 < (l1.length : Int) := of_decide_eq_true (by first | (with_reducible assumption) | assumption)
                        obtain ⟨ad356, A356_0, c356_0, e356, hx356_0, hl356_0, hi356_0⟩ := at_L5 HR1.out x5_1 p356 q356
                        obtain rfl : ad355 = ad356 := (by injection e356)
                        have HR356_0 := Aside0.mk hi356_0
                        have HC356_0 := Aside0.mk hl356_0
                        clear hi356_0 hl356_0
                        replace p356 := eq_true p356
                        replace q356 := eq_true q356
                        have ea_ := Option.some.inj (hx355_0.symm.trans hx356_0)
                        injection ea_ with ea_ en_ ec_
                        subst ea_
                        subst ec_
                        clear en_
                        have p357 : 0 ≤ (x6_2 : Int) := of_decide_eq_true (by first | (with_reducible assumption) | assumption)
                        have q357 : x6_2 < ((rd_L5 l1 x5_1).length : Int) := of_decide_eq_true (by first | (with_reducible assumption) | assumption)
                        obtain ⟨ad357, e357, hx357_0⟩ := Kd.at_int HR356_0.out x6_2 p357 q357
                        cases e357
                        replace p357 := eq_true p357
                        replace q357 := eq_true q357
                        go_wp2
                        repeat (go_quiet (fail); try go_wp2)
                        go_roundg k2
                        case measure => have := HK1.out; have := HK2.out; omega
                        case rel => exact ⟨(wrap64 (x6_2 + 1)), (by first | rfl | (simp; done) | (simp [*]; done)), H', ⟨by have := HK1.out; have := HK2.out; omega⟩, by repeat (first | exact Drawn0.refl _ | apply Drawn0.step)⟩
                  · rw [if_neg c7] at H
                    exact absurd H (by simp)
                · rw [if_neg c6] at H
                  have c6b0 : decide (x6_2 < ((rd_L5 l1 x5_1).length : Int)) = false := decide_eq_false c6
                  clear c6
                  have H' := Aside0.mk H
                  clear H
                  have p355 : 0 ≤ (x5_1 : Int) := of_decide_eq_true (by first | (with_reducible assumption) | assumption)
                  have q355 : x5_1 < (l1.length : Int) := of_decide_eq_true (by first | (with_reducible assumption) | assumption)
                  obtain ⟨ad355, A355_0, c355_0, e355, hx355_0, hl355_0, hi355_0⟩ := at_L5 HR1.out x5_1 p355 q355
                  cases e355
                  have HR355_0 := Aside0.mk hi355_0
                  have HC355_0 := Aside0.mk hl355_0
                  clear hi355_0 hl355_0
                  replace p355 := eq_true p355
                  replace q355 := eq_true q355
                  go_wp2
                  repeat (go_quiet (fail); try go_wp2)
                  go_roundg k2
                  case measure => have := HK1.out; have := HK2.out; omega
                  case rel => exact ⟨(wrap64 (x5_1 + 1)), (by first | rfl | (simp; done) | (simp [*]; done)), H', ⟨by have := HK1.out; have := HK2.out; omega⟩, by repeat (first | exact Drawn0.refl _ | apply Drawn0.step)⟩
              · rw [if_neg c5] at H
                exact absurd H (by simp)
            · rw [if_neg c4] at H
              exact absurd H (by simp)
      · rw [if_neg c3] at H
        have c3b0 : decide (x5_1 < (l0.length : Int)) = false := decide_eq_false c3
        clear c3
        obtain rfl := Option.some.inj H
        go_wp2
        repeat (go_quiet (fail); try go_wp2)
        go_ret
        exact ⟨by first | rfl | (simp; done) | (simp [*]; done), by repeat (first | exact Drawn0.refl _ | apply Drawn0.step)⟩

/-! ### ontimelaw43_few: function 39 -/
mutual
def ontimelaw43_few.j0 : Nat → List (S49) → List (List Int) → Bool → Option (Bool)
  | 0, _, _, _ => none
  | k + 1, x0, x1, x22 => if x22 = true then (some false) else (ontimelaw43_few.l0 k x1 x0 (x0.length : Int) 0)
def ontimelaw43_few.l0 : Nat → List (List Int) → List (S49) → Int → Int → Option (Bool)
  | 0, _, _, _, _ => none
  | k + 1, x1, x23, x24, x25 => if x25 < x24 then (if 0 ≤ x25 then (if x25 < (x23.length : Int) then (if (((rd_T49 x23 x25).f3).length : Int) > 16 then (some false) else (ontimelaw43_few.l0 k x1 x23 x24 (wrap64 (x25 + 1)))) else (none)) else (none)) else (ontimelaw43_few.l1 k x1 (x1.length : Int) 0)
def ontimelaw43_few.l1 : Nat → List (List Int) → Int → Int → Option (Bool)
  | 0, _, _, _ => none
  | k + 1, x34, x35, x36 => if x36 < x35 then (if 0 ≤ x36 then (if x36 < (x34.length : Int) then (if ((rd_L5 x34 x36).length : Int) > 12 then (some false) else (ontimelaw43_few.l1 k x34 x35 (wrap64 (x36 + 1)))) else (none)) else (none)) else (some true)
end
def ontimelaw43_few.f (k : Nat) (l0 : List (S49)) (l1 : List (List Int)) (a2 : Int) : Option (Bool) := if (l0.length : Int) > 6 then (ontimelaw43_few.j0 k l0 l1 true) else (if (l1.length : Int) > 12 then (ontimelaw43_few.j0 k l0 l1 true) else (ontimelaw43_few.j0 k l0 l1 (decide (a2 > 300))))
theorem ontimelaw43_few.mono_l : ∀ k, (∀ y0 y1 y2, LeO (ontimelaw43_few.j0 k y0 y1 y2) (ontimelaw43_few.j0 (k + 1) y0 y1 y2)) ∧ (∀ y0 y1 y2 y3, LeO (ontimelaw43_few.l0 k y0 y1 y2 y3) (ontimelaw43_few.l0 (k + 1) y0 y1 y2 y3)) ∧ (∀ y0 y1 y2, LeO (ontimelaw43_few.l1 k y0 y1 y2) (ontimelaw43_few.l1 (k + 1) y0 y1 y2))
  | 0 => ⟨fun _ _ _ r h => by simp [ontimelaw43_few.j0] at h, fun _ _ _ _ r h => by simp [ontimelaw43_few.l0] at h, fun _ _ _ r h => by simp [ontimelaw43_few.l1] at h⟩
  | k + 1 => by
    obtain ⟨ih0, ih1, ih2⟩ := ontimelaw43_few.mono_l k
    refine ⟨?_, ?_, ?_⟩
    · intro y0 y1 y2
      unfold ontimelaw43_few.j0
      repeat' first
      | (with_reducible exact ih0 _ _ _)
      | (with_reducible exact ih1 _ _ _ _)
      | (with_reducible exact ih2 _ _ _)
      | (with_reducible exact LeO.refl _)
      | (with_reducible exact LeO.none _)
      | (with_reducible refine LeO.ite ?_ ?_)
      | (with_reducible refine LeO.bind ?_ (fun _ => ?_))
      | exact ih0 _ _ _
      | exact ih1 _ _ _ _
      | exact ih2 _ _ _
      | exact LeO.none _
      | refine LeO.ite ?_ ?_
      | refine LeO.bind ?_ (fun _ => ?_)
    · intro y0 y1 y2 y3
      unfold ontimelaw43_few.l0
      repeat' first
      | (with_reducible exact ih0 _ _ _)
      | (with_reducible exact ih1 _ _ _ _)
      | (with_reducible exact ih2 _ _ _)
      | (with_reducible exact LeO.refl _)
      | (with_reducible exact LeO.none _)
      | (with_reducible refine LeO.ite ?_ ?_)
      | (with_reducible refine LeO.bind ?_ (fun _ => ?_))
      | exact ih0 _ _ _
      | exact ih1 _ _ _ _
      | exact ih2 _ _ _
      | exact LeO.none _
      | refine LeO.ite ?_ ?_
      | refine LeO.bind ?_ (fun _ => ?_)
    · intro y0 y1 y2
      unfold ontimelaw43_few.l1
      repeat' first
      | (with_reducible exact ih0 _ _ _)
      | (with_reducible exact ih1 _ _ _ _)
      | (with_reducible exact ih2 _ _ _)
      | (with_reducible exact LeO.refl _)
      | (with_reducible exact LeO.none _)
      | (with_reducible refine LeO.ite ?_ ?_)
      | (with_reducible refine LeO.bind ?_ (fun _ => ?_))
      | exact ih0 _ _ _
      | exact ih1 _ _ _ _
      | exact ih2 _ _ _
      | exact LeO.none _
      | refine LeO.ite ?_ ?_
      | refine LeO.bind ?_ (fun _ => ?_)
theorem ontimelaw43_few.mono : ∀ a0 a1 a2 k, LeO (ontimelaw43_few.f k a0 a1 a2) (ontimelaw43_few.f (k + 1) a0 a1 a2) := by
  intro a0 a1 a2 k
  obtain ⟨ih0, ih1, ih2⟩ := ontimelaw43_few.mono_l k
  unfold ontimelaw43_few.f
  repeat' first
      | (with_reducible exact ih0 _ _ _)
      | (with_reducible exact ih1 _ _ _ _)
      | (with_reducible exact ih2 _ _ _)
      | (with_reducible exact LeO.refl _)
      | (with_reducible exact LeO.none _)
      | (with_reducible refine LeO.ite ?_ ?_)
      | (with_reducible refine LeO.bind ?_ (fun _ => ?_))
      | exact ih0 _ _ _
      | exact ih1 _ _ _ _
      | exact ih2 _ _ _
      | exact LeO.none _
      | refine LeO.ite ?_ ?_
      | refine LeO.bind ?_ (fun _ => ?_)
set_option maxHeartbeats 8000000 in
set_option maxRecDepth 100000 in
theorem ontimelaw43_few.calls (k : Nat) (A0 : Option Addr) (c0 : Nat) (l0 : List (S49)) (A1 : Option Addr) (c1 : Nat) (l1 : List (List Int)) (a2 : Int) (r : Bool) (w : World) (hr0 : Kd.C k49 w A0 l0.length l0) (hc0 : l0.length ≤ c0) (hr1 : Kd.C (Kd.slice 3 (Kd.int .i64)) w A1 l1.length l1) (hc1 : l1.length ≤ c1) (h : ontimelaw43_few.f k l0 l1 a2 = some r) :
    Calls Try.prog 39 #[.slice A0 l0.length c0, .slice A1 l1.length c1, .int .i64 a2] w fun e w' => e = .returned (.bool r) ∧ Below w.heap.size w w' := by
  have hu49 := Try.underlying49
  have HR0 := Aside0.mk hr0
  have HC0 := Aside0.mk hc0
  clear hr0 hc0
  have HR1 := Aside0.mk hr1
  have HC1 := Aside0.mk hc1
  clear hr1 hc1
  have HB := Aside0.mk (Below.refl w.heap.size w)
  have H : (if (l0.length : Int) > 6 then (ontimelaw43_few.j0 k l0 l1 true) else (if (l1.length : Int) > 12 then (ontimelaw43_few.j0 k l0 l1 true) else (ontimelaw43_few.j0 k l0 l1 (decide (a2 > 300))))) = some r := h
  clear h
  have HC4 := Aside0.mk H
  clear H
  go_enter Try.func39, Try.ntmps39
  go_upto_region 1 with (fail)
  go_cut [22] (fun v22 wc => ∃ (kq : Nat) (x22_3 : Bool), v22 = .bool x22_3 ∧ Aside0 (ontimelaw43_few.j0 kq l0 l1 x22_3 = some r) ∧ Aside0 (kq ≤ k) ∧ Aside0 (Below w.heap.size w wc))
  case first =>
    have H := HC4.out
    clear HC4
    by_cases c5 : (l0.length : Int) > 6
    · rw [if_pos c5] at H
      have c5b0 : decide (6 < (l0.length : Int)) = true := decide_eq_true c5
      have c5b1 : decide (6 < l0.length) = true := decide_eq_true (by omega)
      clear c5
      (first | rw [c5b0] | (simp only [i64_w, i32_w]; rw [c5b0]) | skip)
      have H' := Aside0.mk H
      clear H
      go_wp2
      go_meet
      case rel => exact ⟨_, (true), (by first | rfl | (simp; done) | (simp [*]; done)), H', ⟨by first | omega | exact Nat.le_refl _⟩, ⟨by repeat (first | (with_reducible first | exact HB.out | apply below_alloc | apply pw_below_drewN | apply below_drew1) | exact HB.out)⟩⟩
    · rw [if_neg c5] at H
      have c5b0 : decide (6 < (l0.length : Int)) = false := decide_eq_false c5
      have c5b1 : decide (6 < l0.length) = false := decide_eq_false (by omega)
      clear c5
      (first | rw [c5b0] | (simp only [i64_w, i32_w]; rw [c5b0]) | skip)
      by_cases c6 : (l1.length : Int) > 12
      · rw [if_pos c6] at H
        have c6b0 : decide (12 < (l1.length : Int)) = true := decide_eq_true c6
        have c6b1 : decide (12 < l1.length) = true := decide_eq_true (by omega)
        clear c6
        have H' := Aside0.mk H
        clear H
        go_wp2
        go_meet
        case rel => exact ⟨_, (true), (by first | rfl | (simp; done) | (simp [*]; done)), H', ⟨by first | omega | exact Nat.le_refl _⟩, ⟨by repeat (first | (with_reducible first | exact HB.out | apply below_alloc | apply pw_below_drewN | apply below_drew1) | exact HB.out)⟩⟩
      · rw [if_neg c6] at H
        have c6b0 : decide (12 < (l1.length : Int)) = false := decide_eq_false c6
        have c6b1 : decide (12 < l1.length) = false := decide_eq_false (by omega)
        clear c6
        have H' := Aside0.mk H
        clear H
        go_wp2
        go_meet
        case rel => exact ⟨_, (decide (a2 > 300)), (by first | rfl | (simp; done) | (simp [*]; done)), H', ⟨by first | omega | exact Nat.le_refl _⟩, ⟨by repeat (first | (with_reducible first | exact HB.out | apply below_alloc | apply pw_below_drewN | apply below_drew1) | exact HB.out)⟩⟩
  case rest =>
    clear HC4
    try clear c1
    try clear p2
    try clear c3
    try clear c5
    try clear c5b0
    try clear c5b1
    try clear c6
    try clear c6b0
    try clear c6b1
    obtain ⟨kq, x22_3, rfl, HA, HJ3, HB⟩ := hcut
    cases kq with
    | zero => exact absurd HA.out (by simp [ontimelaw43_few.j0])
    | succ kj3 =>
      have H := HA.out
      clear HA
      simp only [ontimelaw43_few.j0] at H
      by_cases c7 : x22_3 = true
      · subst c7
        have H1 : (some false) = some r := by rw [if_pos rfl] at H; exact H
        clear H
        have H := H1
        clear H1
        obtain rfl := Option.some.inj H
        go_wp2
        go_ret
        exact ⟨by first | rfl | (simp [errW_none, errW_some] <;> rfl) | (simp [*, errW_none, errW_some] <;> rfl), by repeat (first | (with_reducible first | exact HB.out | apply below_alloc | apply pw_below_drewN | apply below_drew1) | exact HB.out)⟩
      · replace c7 := Bool.eq_false_iff.mpr c7
        subst c7
        have H1 : (ontimelaw43_few.l0 kj3 l1 l0 (l0.length : Int) 0) = some r := by rw [if_neg (show ¬ (false = true) by decide)] at H; exact H
        clear H
        have H := H1
        clear H1
        have H' := Aside0.mk H
        clear H
        go_wp2
        go_loopg [25] kj3 (fun kq v25 w' => ∃ (x25_2 : Int), v25 = .int .i64 x25_2 ∧ Aside0 (ontimelaw43_few.l0 kq l1 l0 (l0.length : Int) x25_2 = some r) ∧ Aside0 (kq ≤ kj3) ∧ Aside0 (Below w.heap.size w w'))
        case atStart => exact ⟨(0), (by first | rfl | (simp; done) | (simp [*]; done)), H', ⟨Nat.le_refl _⟩, ⟨by repeat (first | (with_reducible first | exact HB.out | apply below_alloc | apply pw_below_drewN | apply below_drew1) | exact HB.out)⟩⟩
        case round =>
          clear H'
          try clear c1
          try clear p2
          try clear c3
          try clear c5
          try clear c5b0
          try clear c5b1
          try clear c6
          try clear c6b0
          try clear c6b1
          try clear c7
          try clear p2
          obtain ⟨x25_2, rfl, HA, HK2, HB⟩ := hrel
          cases gk with
          | zero => exact absurd HA.out (by simp [ontimelaw43_few.l0])
          | succ k2 =>
            have H := HA.out
            clear HA
            simp only [ontimelaw43_few.l0] at H
            by_cases c8 : x25_2 < (l0.length : Int)
            · rw [if_pos c8] at H
              have c8b0 : decide (x25_2 < (l0.length : Int)) = true := decide_eq_true c8
              clear c8
              by_cases c9 : 0 ≤ x25_2
              · rw [if_pos c9] at H
                have c9b0 : decide (0 ≤ x25_2) = true := decide_eq_true c9
                clear c9
                by_cases c10 : x25_2 < (l0.length : Int)
                · rw [if_pos c10] at H
                  have c10b0 : decide (x25_2 < (l0.length : Int)) = true := decide_eq_true c10
                  clear c10
                  by_cases c11 : (((rd_T49 l0 x25_2).f3).length : Int) > 16
                  · rw [if_pos c11] at H
                    have c11b0 : decide (16 < (((rd_T49 l0 x25_2).f3).length : Int)) = true := decide_eq_true c11
                    have c11b1 : decide (16 < ((rd_T49 l0 x25_2).f3).length) = true := decide_eq_true (by omega)
                    clear c11
                    obtain rfl := Option.some.inj H
                    have p363 : 0 ≤ (x25_2 : Int) := of_decide_eq_true (by first | (with_reducible assumption) | assumption)
                    have q363 : x25_2 < (l0.length : Int) := of_decide_eq_true (by first | (with_reducible assumption) | assumption)
                    obtain ⟨ad363, A363_3, c363_3, e363, hx363_0, hx363_1, hx363_2, hx363_3, hl363_3, hi363_3⟩ := at_T49 HR0.out x25_2 p363 q363
                    cases e363
                    replace hx363_0 := (HB.out.cell (World.block_lt_of_cell? w _ hx363_0)).trans hx363_0
                    replace hx363_1 := (HB.out.cell (World.block_lt_of_cell? w _ hx363_1)).trans hx363_1
                    replace hx363_2 := (HB.out.cell (World.block_lt_of_cell? w _ hx363_2)).trans hx363_2
                    replace hx363_3 := (HB.out.cell (World.block_lt_of_cell? w _ hx363_3)).trans hx363_3
                    have HR363_3 := Aside0.mk hi363_3
                    have HC363_3 := Aside0.mk hl363_3
                    clear hi363_3 hl363_3
                    replace p363 := eq_true p363
                    replace q363 := eq_true q363
                    go_wp2_with (first | ((with_reducible refine gate_dst (N := 8) rfl ?_); (try (refine gate_guard (by rfl) ?_; dsimp only)); refine box_event ?hg (N := 8) ?hd (cs := #[.int .i64 0, .int .i64 0, .int .i64 0, .slice none 0 0]) (t := 49) ?hr ?_; (case hd => rfl); (case hg => rfl); (case hr => first | (go_simp; done) | (go_simp; rfl)); intro gb364 hg w12 hbox hb; have n0_ := Aside0.mk (below_step (by repeat (first | (with_reducible first | exact HB.out | apply below_alloc | apply pw_below_drewN | apply below_drew1) | exact HB.out)) hb); have n1_ := Aside0.mk (hbox); have n2_ := Aside0.mk ((by rw [hg]; exact (below_size (by repeat (first | (with_reducible first | exact HB.out | apply below_alloc | apply pw_below_drewN | apply below_drew1) | exact HB.out))) : w.heap.size ≤ gb364)); have n3_ := Aside0.mk ((by rw [hg]; exact (below_size (by repeat (first | (with_reducible first | exact HB.out | apply below_alloc | apply pw_below_drewN | apply below_drew1) | exact HB.out))) : w.heap.size ≤ gb364)); clear HB; have HB := n0_; have BK364 := n1_; have GW364 := n2_; have GE364 := n3_; clear n0_ n1_ n2_ n3_; clear hb hbox hg; have hcz13_0 : w12.cell? ⟨gb364, 0, none⟩ = some (.int .i64 0) := (blk_cell BK364.out 0).trans rfl; have hcz13_1 : w12.cell? ⟨gb364, 1, none⟩ = some (.int .i64 0) := (blk_cell BK364.out 1).trans rfl; have hcz13_2 : w12.cell? ⟨gb364, 2, none⟩ = some (.int .i64 0) := (blk_cell BK364.out 2).trans rfl; have hcz13_3 : w12.cell? ⟨gb364, 3, none⟩ = some (.slice none 0 0) := (blk_cell BK364.out 3).trans rfl; have hfz13_0 := blk_frozen BK364.out 0; have hfz13_1 := blk_frozen BK364.out 1; have hfz13_2 := blk_frozen BK364.out 2; have hfz13_3 := blk_frozen BK364.out 3))
                    go_ret
                    exact ⟨by first | rfl | (simp [errW_none, errW_some] <;> rfl) | (simp [*, errW_none, errW_some] <;> rfl), by repeat (first | (with_reducible first | exact HB.out | apply below_alloc | apply pw_below_drewN | apply below_drew1 | refine below_set ?_ GE364.out) | exact HB.out)⟩
                  · rw [if_neg c11] at H
                    have c11b0 : decide (16 < (((rd_T49 l0 x25_2).f3).length : Int)) = false := decide_eq_false c11
                    have c11b1 : decide (16 < ((rd_T49 l0 x25_2).f3).length) = false := decide_eq_false (by omega)
                    clear c11
                    have H' := Aside0.mk H
                    clear H
                    have p363 : 0 ≤ (x25_2 : Int) := of_decide_eq_true (by first | (with_reducible assumption) | assumption)
                    have q363 : x25_2 < (l0.length : Int) := of_decide_eq_true (by first | (with_reducible assumption) | assumption)
                    obtain ⟨ad363, A363_3, c363_3, e363, hx363_0, hx363_1, hx363_2, hx363_3, hl363_3, hi363_3⟩ := at_T49 HR0.out x25_2 p363 q363
                    cases e363
                    replace hx363_0 := (HB.out.cell (World.block_lt_of_cell? w _ hx363_0)).trans hx363_0
                    replace hx363_1 := (HB.out.cell (World.block_lt_of_cell? w _ hx363_1)).trans hx363_1
                    replace hx363_2 := (HB.out.cell (World.block_lt_of_cell? w _ hx363_2)).trans hx363_2
                    replace hx363_3 := (HB.out.cell (World.block_lt_of_cell? w _ hx363_3)).trans hx363_3
                    have HR363_3 := Aside0.mk hi363_3
                    have HC363_3 := Aside0.mk hl363_3
                    clear hi363_3 hl363_3
                    replace p363 := eq_true p363
                    replace q363 := eq_true q363
                    go_wp2_with (first | ((with_reducible refine gate_dst (N := 8) rfl ?_); (try (refine gate_guard (by rfl) ?_; dsimp only)); refine box_event ?hg (N := 8) ?hd (cs := #[.int .i64 0, .int .i64 0, .int .i64 0, .slice none 0 0]) (t := 49) ?hr ?_; (case hd => rfl); (case hg => rfl); (case hr => first | (go_simp; done) | (go_simp; rfl)); intro gb364 hg w14 hbox hb; have n0_ := Aside0.mk (below_step (by repeat (first | (with_reducible first | exact HB.out | apply below_alloc | apply pw_below_drewN | apply below_drew1) | exact HB.out)) hb); have n1_ := Aside0.mk (hbox); have n2_ := Aside0.mk ((by rw [hg]; exact (below_size (by repeat (first | (with_reducible first | exact HB.out | apply below_alloc | apply pw_below_drewN | apply below_drew1) | exact HB.out))) : w.heap.size ≤ gb364)); have n3_ := Aside0.mk ((by rw [hg]; exact (below_size (by repeat (first | (with_reducible first | exact HB.out | apply below_alloc | apply pw_below_drewN | apply below_drew1) | exact HB.out))) : w.heap.size ≤ gb364)); clear HB; have HB := n0_; have BK364 := n1_; have GW364 := n2_; have GE364 := n3_; clear n0_ n1_ n2_ n3_; clear hb hbox hg; have hcz15_0 : w14.cell? ⟨gb364, 0, none⟩ = some (.int .i64 0) := (blk_cell BK364.out 0).trans rfl; have hcz15_1 : w14.cell? ⟨gb364, 1, none⟩ = some (.int .i64 0) := (blk_cell BK364.out 1).trans rfl; have hcz15_2 : w14.cell? ⟨gb364, 2, none⟩ = some (.int .i64 0) := (blk_cell BK364.out 2).trans rfl; have hcz15_3 : w14.cell? ⟨gb364, 3, none⟩ = some (.slice none 0 0) := (blk_cell BK364.out 3).trans rfl; have hfz15_0 := blk_frozen BK364.out 0; have hfz15_1 := blk_frozen BK364.out 1; have hfz15_2 := blk_frozen BK364.out 2; have hfz15_3 := blk_frozen BK364.out 3))
                    go_roundg k2
                    case measure => have := HJ3.out; have := HK2.out; omega
                    case rel => exact ⟨(wrap64 (x25_2 + 1)), (by first | rfl | (simp; done) | (simp [*]; done)), H', ⟨by have := HJ3.out; have := HK2.out; omega⟩, ⟨by repeat (first | (with_reducible first | exact HB.out | apply below_alloc | apply pw_below_drewN | apply below_drew1 | refine below_set ?_ GE364.out) | exact HB.out)⟩⟩
                · rw [if_neg c10] at H
                  exact absurd H (by simp)
              · rw [if_neg c9] at H
                exact absurd H (by simp)
            · rw [if_neg c8] at H
              have c8b0 : decide (x25_2 < (l0.length : Int)) = false := decide_eq_false c8
              clear c8
              have H' := Aside0.mk H
              clear H
              go_wp2
              go_loopg [36] k2 (fun kq v36 w' => ∃ (x36_3 : Int), v36 = .int .i64 x36_3 ∧ Aside0 (ontimelaw43_few.l1 kq l1 (l1.length : Int) x36_3 = some r) ∧ Aside0 (kq ≤ k2) ∧ Aside0 (Below w.heap.size w w'))
              case atStart => exact ⟨(0), (by first | rfl | (simp; done) | (simp [*]; done)), H', ⟨Nat.le_refl _⟩, ⟨by repeat (first | (with_reducible first | exact HB.out | apply below_alloc | apply pw_below_drewN | apply below_drew1) | exact HB.out)⟩⟩
              case round =>
                clear H'
                try clear c1
                try clear p2
                try clear c3
                try clear p3
                try clear q3
                try clear hx3
                try clear c5
                try clear c5b0
                try clear c5b1
                try clear c6
                try clear c6b0
                try clear c6b1
                try clear p6
                try clear c7
                try clear c8
                try clear c8b0
                try clear c9
                try clear c9b0
                try clear c10
                try clear c10b0
                try clear c11
                try clear c11b0
                try clear c11b1
                try clear hcz13_0
                try clear hcz13_1
                try clear hcz13_2
                try clear hcz13_3
                try clear hcz15_0
                try clear hcz15_1
                try clear hcz15_2
                try clear hcz15_3
                try clear hfz13_0
                try clear hfz13_1
                try clear hfz13_2
                try clear hfz13_3
                try clear hfz15_0
                try clear hfz15_1
                try clear hfz15_2
                try clear hfz15_3
                try clear hx363_0
                try clear hx363_1
                try clear hx363_2
                try clear hx363_3
                try clear p2
                try clear p363
                try clear q363
                obtain ⟨x36_3, rfl, HA, HK3, HB⟩ := hrel
                cases gk with
                | zero => exact absurd HA.out (by simp [ontimelaw43_few.l1])
                | succ k3 =>
                  have H := HA.out
                  clear HA
                  simp only [ontimelaw43_few.l1] at H
                  by_cases c16 : x36_3 < (l1.length : Int)
                  · rw [if_pos c16] at H
                    have c16b0 : decide (x36_3 < (l1.length : Int)) = true := decide_eq_true c16
                    clear c16
                    by_cases c17 : 0 ≤ x36_3
                    · rw [if_pos c17] at H
                      have c17b0 : decide (0 ≤ x36_3) = true := decide_eq_true c17
                      clear c17
                      by_cases c18 : x36_3 < (l1.length : Int)
                      · rw [if_pos c18] at H
                        have c18b0 : decide (x36_3 < (l1.length : Int)) = true := decide_eq_true c18
                        clear c18
                        by_cases c19 : ((rd_L5 l1 x36_3).length : Int) > 12
                        · rw [if_pos c19] at H
                          have c19b0 : decide (12 < ((rd_L5 l1 x36_3).length : Int)) = true := decide_eq_true c19
                          have c19b1 : decide (12 < (rd_L5 l1 x36_3).length) = true := decide_eq_true (by omega)
                          clear c19
                          obtain rfl := Option.some.inj H
                          have p365 : 0 ≤ (x36_3 : Int) := of_decide_eq_true (by first | (with_reducible assumption) | assumption)
                          have q365 : x36_3 < (l1.length : Int) := of_decide_eq_true (by first | (with_reducible assumption) | assumption)
                          obtain ⟨ad365, A365_0, c365_0, e365, hx365_0, hl365_0, hi365_0⟩ := at_L5 HR1.out x36_3 p365 q365
                          cases e365
                          replace hx365_0 := (HB.out.cell (World.block_lt_of_cell? w _ hx365_0)).trans hx365_0
                          have HR365_0 := Aside0.mk hi365_0
                          have HC365_0 := Aside0.mk hl365_0
                          clear hi365_0 hl365_0
                          replace p365 := eq_true p365
                          replace q365 := eq_true q365
                          go_wp2
                          go_ret
                          exact ⟨by first | rfl | (simp [errW_none, errW_some] <;> rfl) | (simp [*, errW_none, errW_some] <;> rfl), by repeat (first | (with_reducible first | exact HB.out | apply below_alloc | apply pw_below_drewN | apply below_drew1) | exact HB.out)⟩
                        · rw [if_neg c19] at H
                          have c19b0 : decide (12 < ((rd_L5 l1 x36_3).length : Int)) = false := decide_eq_false c19
                          have c19b1 : decide (12 < (rd_L5 l1 x36_3).length) = false := decide_eq_false (by omega)
                          clear c19
                          have H' := Aside0.mk H
                          clear H
                          have p365 : 0 ≤ (x36_3 : Int) := of_decide_eq_true (by first | (with_reducible assumption) | assumption)
                          have q365 : x36_3 < (l1.length : Int) := of_decide_eq_true (by first | (with_reducible assumption) | assumption)
                          obtain ⟨ad365, A365_0, c365_0, e365, hx365_0, hl365_0, hi365_0⟩ := at_L5 HR1.out x36_3 p365 q365
                          cases e365
                          replace hx365_0 := (HB.out.cell (World.block_lt_of_cell? w _ hx365_0)).trans hx365_0
                          have HR365_0 := Aside0.mk hi365_0
                          have HC365_0 := Aside0.mk hl365_0
                          clear hi365_0 hl365_0
                          replace p365 := eq_true p365
                          replace q365 := eq_true q365
                          go_wp2
                          go_roundg k3
                          case measure => have := HJ3.out; have := HK2.out; have := HK3.out; omega
                          case rel => exact ⟨(wrap64 (x36_3 + 1)), (by first | rfl | (simp; done) | (simp [*]; done)), H', ⟨by have := HJ3.out; have := HK2.out; have := HK3.out; omega⟩, ⟨by repeat (first | (with_reducible first | exact HB.out | apply below_alloc | apply pw_below_drewN | apply below_drew1) | exact HB.out)⟩⟩
                      · rw [if_neg c18] at H
                        exact absurd H (by simp)
                    · rw [if_neg c17] at H
                      exact absurd H (by simp)
                  · rw [if_neg c16] at H
                    have c16b0 : decide (x36_3 < (l1.length : Int)) = false := decide_eq_false c16
                    clear c16
                    obtain rfl := Option.some.inj H
                    go_wp2
                    go_ret
                    exact ⟨by first | rfl | (simp [errW_none, errW_some] <;> rfl) | (simp [*, errW_none, errW_some] <;> rfl), by repeat (first | (with_reducible first | exact HB.out | apply below_alloc | apply pw_below_drewN | apply below_drew1) | exact HB.out)⟩

end Go.Proofs.Ytcmifojplgmgkaa.P
