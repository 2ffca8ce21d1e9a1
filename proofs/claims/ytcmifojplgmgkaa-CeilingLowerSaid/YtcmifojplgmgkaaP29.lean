-- written by wip/drive.py (a driver of this session's own over the kit's print.py)
import Derived.Test.YtcmifojplgmgkaaP0
namespace Go.Proofs.Ytcmifojplgmgkaa.P
open Go.RowKit Go.Proofs.YtcmifojplgmgkaaW.PrintWords Go.Proofs.YtcmifojplgmgkaaW.PrintLast Go.Proofs.YtcmifojplgmgkaaW.PrintMore
attribute [local go_sem] max2_int min2_int max_two min_two max_three min_three max_four min_four   -- for this text's walks alone
set_option linter.unusedVariables false
set_option linter.unusedSimpArgs false

/-! ### ontimeref43_Spaced: function 37 -/
mutual
def ontimeref43_Spaced.l0 : Nat → List (S93) → List (List Int) → Int → Option (Bool)
  | 0, _, _, _ => none
  | k + 1, x0, x1, x5 => if x5 < (x0.length : Int) then (ontimeref43_Spaced.l1 k x0 x1 x5 0) else (some true)
def ontimeref43_Spaced.l1 : Nat → List (S93) → List (List Int) → Int → Int → Option (Bool)
  | 0, _, _, _, _ => none
  | k + 1, x0, x1, x5, x6 => if 0 ≤ x5 then (if x5 < (x1.length : Int) then (if x6 < ((rd_L5 x1 x5).length : Int) then (if 0 ≤ x6 then (if (rd (rd_L5 x1 x5) x6) < 0 then (some false) else (if x6 > 0 then (if 0 ≤ (wrap64 (x6 - 1)) then (if (wrap64 (x6 - 1)) < ((rd_L5 x1 x5).length : Int) then (if x5 < (x0.length : Int) then (if (wrap64 ((rd (rd_L5 x1 x5) x6) - (rd (rd_L5 x1 x5) (wrap64 (x6 - 1))))) < ((rd_T93 x0 x5).f1) then (some false) else (ontimeref43_Spaced.l1 k x0 x1 x5 (wrap64 (x6 + 1)))) else (none)) else (none)) else (none)) else (ontimeref43_Spaced.l1 k x0 x1 x5 (wrap64 (x6 + 1))))) else (none)) else (ontimeref43_Spaced.l0 k x0 x1 (wrap64 (x5 + 1)))) else (none)) else (none)
end
def ontimeref43_Spaced.f (k : Nat) (l0 : List (S93)) (l1 : List (List Int)) : Option (Bool) := ontimeref43_Spaced.l0 k l0 l1 0
theorem ontimeref43_Spaced.mono_l : ∀ k, (∀ y0 y1 y2, LeO (ontimeref43_Spaced.l0 k y0 y1 y2) (ontimeref43_Spaced.l0 (k + 1) y0 y1 y2)) ∧ (∀ y0 y1 y2 y3, LeO (ontimeref43_Spaced.l1 k y0 y1 y2 y3) (ontimeref43_Spaced.l1 (k + 1) y0 y1 y2 y3))
  | 0 => ⟨fun _ _ _ r h => by simp [ontimeref43_Spaced.l0] at h, fun _ _ _ _ r h => by simp [ontimeref43_Spaced.l1] at h⟩
  | k + 1 => by
    obtain ⟨ih0, ih1⟩ := ontimeref43_Spaced.mono_l k
    refine ⟨?_, ?_⟩
    · intro y0 y1 y2
      unfold ontimeref43_Spaced.l0
      repeat' first
      | (with_reducible exact ih0 _ _ _)
      | (with_reducible exact ih1 _ _ _ _)
      | (with_reducible exact LeO.refl _)
      | (with_reducible exact LeO.none _)
      | (with_reducible refine LeO.ite ?_ ?_)
      | (with_reducible refine LeO.bind ?_ (fun _ => ?_))
      | exact ih0 _ _ _
      | exact ih1 _ _ _ _
      | exact LeO.none _
      | refine LeO.ite ?_ ?_
      | refine LeO.bind ?_ (fun _ => ?_)
    · intro y0 y1 y2 y3
      unfold ontimeref43_Spaced.l1
      repeat' first
      | (with_reducible exact ih0 _ _ _)
      | (with_reducible exact ih1 _ _ _ _)
      | (with_reducible exact LeO.refl _)
      | (with_reducible exact LeO.none _)
      | (with_reducible refine LeO.ite ?_ ?_)
      | (with_reducible refine LeO.bind ?_ (fun _ => ?_))
      | exact ih0 _ _ _
      | exact ih1 _ _ _ _
      | exact LeO.none _
      | refine LeO.ite ?_ ?_
      | refine LeO.bind ?_ (fun _ => ?_)
theorem ontimeref43_Spaced.mono : ∀ a0 a1 k, LeO (ontimeref43_Spaced.f k a0 a1) (ontimeref43_Spaced.f (k + 1) a0 a1) := by
  intro a0 a1 k
  obtain ⟨ih0, ih1⟩ := ontimeref43_Spaced.mono_l k
  unfold ontimeref43_Spaced.f
  repeat' first
      | (with_reducible exact ih0 _ _ _)
      | (with_reducible exact ih1 _ _ _ _)
      | (with_reducible exact LeO.refl _)
      | (with_reducible exact LeO.none _)
      | (with_reducible refine LeO.ite ?_ ?_)
      | (with_reducible refine LeO.bind ?_ (fun _ => ?_))
      | exact ih0 _ _ _
      | exact ih1 _ _ _ _
      | exact LeO.none _
      | refine LeO.ite ?_ ?_
      | refine LeO.bind ?_ (fun _ => ?_)
set_option maxHeartbeats 8000000 in
set_option maxRecDepth 100000 in
theorem ontimeref43_Spaced.calls (k : Nat) (A0 : Option Addr) (c0 : Nat) (l0 : List (S93)) (A1 : Option Addr) (c1 : Nat) (l1 : List (List Int)) (r : Bool) (w : World) (hr0 : Kd.C k93 w A0 l0.length l0) (hc0 : l0.length ≤ c0) (hr1 : Kd.C (Kd.slice 3 (Kd.int .i64)) w A1 l1.length l1) (hc1 : l1.length ≤ c1) (h : ontimeref43_Spaced.f k l0 l1 = some r) :
    Calls Try.prog 37 #[.slice A0 l0.length c0, .slice A1 l1.length c1] w fun e w' => e = .returned (.bool r) ∧ Drawn0 w w' := by
  have HR0 := Aside0.mk hr0
  have HC0 := Aside0.mk hc0
  clear hr0 hc0
  have HR1 := Aside0.mk hr1
  have HC1 := Aside0.mk hc1
  clear hr1 hc1
  have H : (ontimeref43_Spaced.l0 k l0 l1 0) = some r := h
  clear h
  have H' := Aside0.mk H
  clear H
  go_enter Try.func37, Try.ntmps37
  go_wp2
  repeat (go_quiet (fail); try go_wp2)
  go_loopg [5] k (fun kq v5 w' => ∃ (x5_1 : Int), v5 = .int .i64 x5_1 ∧ Aside0 (ontimeref43_Spaced.l0 kq l0 l1 x5_1 = some r) ∧ Aside0 (kq ≤ k) ∧ Drawn0 w w')
  case atStart => exact ⟨(0), (by first | rfl | (simp; done) | (simp [*]; done)), H', ⟨Nat.le_refl _⟩, by repeat (first | exact Drawn0.refl _ | apply Drawn0.step)⟩
  case round =>
    clear H'
    try clear c1
    try clear p2
    obtain ⟨x5_1, rfl, HA, HK1, ⟨m1, rfl⟩⟩ := hrel
    cases gk with
    | zero => exact absurd HA.out (by simp [ontimeref43_Spaced.l0])
    | succ k1 =>
      have H := HA.out
      clear HA
      simp only [ontimeref43_Spaced.l0] at H
      by_cases c3 : x5_1 < (l0.length : Int)
      · rw [if_pos c3] at H
        have c3b0 : decide (x5_1 < (l0.length : Int)) = true := decide_eq_true c3
        clear c3
        have H' := Aside0.mk H
        clear H
        go_wp2
        repeat (go_quiet (fail); try go_wp2)
        go_loopg [6] k1 (fun kq v6 w' => ∃ (x6_2 : Int), v6 = .int .i64 x6_2 ∧ Aside0 (ontimeref43_Spaced.l1 kq l0 l1 x5_1 x6_2 = some r) ∧ Aside0 (kq ≤ k1) ∧ Drawn0 w w')
        case atStart => exact ⟨(0), (by first | rfl | (simp; done) | (simp [*]; done)), H', ⟨Nat.le_refl _⟩, by repeat (first | exact Drawn0.refl _ | apply Drawn0.step)⟩
        case round =>
          clear H'
          try clear c1
          try clear p2
          try clear c3
          try clear c3b0
          try clear p2
          obtain ⟨x6_2, rfl, HA, HK2, ⟨m2, rfl⟩⟩ := hrel
          cases gk with
          | zero => exact absurd HA.out (by simp [ontimeref43_Spaced.l1])
          | succ k2 =>
            have H := HA.out
            clear HA
            simp only [ontimeref43_Spaced.l1] at H
            by_cases c4 : 0 ≤ x5_1
            · rw [if_pos c4] at H
              have c4b0 : decide (0 ≤ x5_1) = true := decide_eq_true c4
              clear c4
              by_cases c5 : x5_1 < (l1.length : Int)
              · rw [if_pos c5] at H
                have c5b0 : decide (x5_1 < (l1.length : Int)) = true := decide_eq_true c5
                clear c5
                by_cases c6 : x6_2 < ((rd_L5 l1 x5_1).length : Int)
                · rw [if_pos c6] at H
                  have c6b0 : decide (x6_2 < ((rd_L5 l1 x5_1).length : Int)) = true := decide_eq_true c6
                  clear c6
                  by_cases c7 : 0 ≤ x6_2
                  · rw [if_pos c7] at H
                    have c7b0 : decide (0 ≤ x6_2) = true := decide_eq_true c7
                    clear c7
                    by_cases c8 : (rd (rd_L5 l1 x5_1) x6_2) < 0
                    · rw [if_pos c8] at H
                      have c8b0 : decide ((rd (rd_L5 l1 x5_1) x6_2) < 0) = true := decide_eq_true c8
                      clear c8
                      obtain rfl := Option.some.inj H
                      have p365 : 0 ≤ (x5_1 : Int) := of_decide_eq_true (by first | (with_reducible assumption) | assumption)
                      have q365 : x5_1 < (l1.length : Int) := of_decide_eq_true (by first | (with_reducible assumption) | assumption)
                      obtain ⟨ad365, A365_0, c365_0, e365, hx365_0, hl365_0, hi365_0⟩ := at_L5 HR1.out x5_1 p365 q365
                      cases e365
                      have HR365_0 := Aside0.mk hi365_0
                      have HC365_0 := Aside0.mk hl365_0
                      clear hi365_0 hl365_0
                      replace p365 := eq_true p365
                      replace q365 := eq_true q365
                      have p366 : 0 ≤ (x5_1 : Int) := of_decide_eq_true (by first | (with_reducible assumption) | assumption)
                      have q366 : x5_1 < (l1.length : Int) := of_decide_eq_true (by first | (with_reducible assumption) | assumption)
                      obtain ⟨ad366, A366_0, c366_0, e366, hx366_0, hl366_0, hi366_0⟩ := at_L5 HR1.out x5_1 p366 q366
                      obtain rfl : ad365 = ad366 := (by injection e366)
                      have HR366_0 := Aside0.mk hi366_0
                      have HC366_0 := Aside0.mk hl366_0
                      clear hi366_0 hl366_0
                      replace p366 := eq_true p366
                      replace q366 := eq_true q366
                      have ea_ := Option.some.inj (hx365_0.symm.trans hx366_0)
                      injection ea_ with ea_ en_ ec_
                      subst ea_
                      subst ec_
                      clear en_
                      have p367 : 0 ≤ (x6_2 : Int) := of_decide_eq_true (by first | (with_reducible assumption) | assumption)
                      have q367 : x6_2 < ((rd_L5 l1 x5_1).length : Int) := of_decide_eq_true (by first | (with_reducible assumption) | assumption)
                      obtain ⟨ad367, e367, hx367_0⟩ := Kd.at_int HR366_0.out x6_2 p367 q367
                      cases e367
                      replace p367 := eq_true p367
                      replace q367 := eq_true q367
                      go_wp2
                      repeat (go_quiet (fail); try go_wp2)
                      go_ret
                      exact ⟨by first | rfl | (simp; done) | (simp [*]; done), by repeat (first | exact Drawn0.refl _ | apply Drawn0.step)⟩
                    · rw [if_neg c8] at H
                      have c8b0 : decide ((rd (rd_L5 l1 x5_1) x6_2) < 0) = false := decide_eq_false c8
                      clear c8
                      by_cases c9 : x6_2 > 0
                      · rw [if_pos c9] at H
                        have c9b0 : decide (0 < x6_2) = true := decide_eq_true c9
                        clear c9
                        obtain ⟨ji10, hji10⟩ : ∃ j_ : Int, (wrap64 (x6_2 - 1)) = j_ := ⟨_, rfl⟩
                        replace H : (if 0 ≤ (ji10) then (if (ji10) < ((rd_L5 l1 x5_1).length : Int) then (if x5_1 < (l0.length : Int) then (if (wrap64 ((rd (rd_L5 l1 x5_1) x6_2) - (rd (rd_L5 l1 x5_1) (ji10)))) < ((rd_T93 l0 x5_1).f1) then (some false) else (ontimeref43_Spaced.l1 k2 l0 l1 x5_1 (wrap64 (x6_2 + 1)))) else (none)) else (none)) else (none)) = some r := by first | (rw [hji10] at H; exact H) | (simp only [hji10] at H ⊢; exact H)
                        have hji10w : (IntKind.i64.wrap (x6_2 - 1)) = ji10 := (i64_w _).trans hji10
                        by_cases c11 : 0 ≤ (ji10)
                        · rw [if_pos c11] at H
                          have c11b0 : decide (0 ≤ (ji10)) = true := decide_eq_true c11
                          clear c11
                          by_cases c12 : (ji10) < ((rd_L5 l1 x5_1).length : Int)
                          · rw [if_pos c12] at H
                            have c12b0 : decide ((ji10) < ((rd_L5 l1 x5_1).length : Int)) = true := decide_eq_true c12
                            clear c12
                            by_cases c13 : x5_1 < (l0.length : Int)
                            · rw [if_pos c13] at H
                              have c13b0 : decide (x5_1 < (l0.length : Int)) = true := decide_eq_true c13
                              clear c13
                              by_cases c14 : (wrap64 ((rd (rd_L5 l1 x5_1) x6_2) - (rd (rd_L5 l1 x5_1) (ji10)))) < ((rd_T93 l0 x5_1).f1)
                              · rw [if_pos c14] at H
                                have c14b0 : decide ((wrap64 ((rd (rd_L5 l1 x5_1) x6_2) - (rd (rd_L5 l1 x5_1) (ji10)))) < ((rd_T93 l0 x5_1).f1)) = true := decide_eq_true c14
                                clear c14
                                obtain rfl := Option.some.inj H
                                have p365 : 0 ≤ (x5_1 : Int) := of_decide_eq_true (by first | (with_reducible assumption) | assumption)
                                have q365 : x5_1 < (l1.length : Int) := of_decide_eq_true (by first | (with_reducible assumption) | assumption)
                                obtain ⟨ad365, A365_0, c365_0, e365, hx365_0, hl365_0, hi365_0⟩ := at_L5 HR1.out x5_1 p365 q365
                                cases e365
                                have HR365_0 := Aside0.mk hi365_0
                                have HC365_0 := Aside0.mk hl365_0
                                clear hi365_0 hl365_0
                                replace p365 := eq_true p365
                                replace q365 := eq_true q365
                                have p366 : 0 ≤ (x5_1 : Int) := of_decide_eq_true (by first | (with_reducible assumption) | assumption)
                                have q366 : x5_1 < (l1.length : Int) := of_decide_eq_true (by first | (with_reducible assumption) | assumption)
                                obtain ⟨ad366, A366_0, c366_0, e366, hx366_0, hl366_0, hi366_0⟩ := at_L5 HR1.out x5_1 p366 q366
                                obtain rfl : ad365 = ad366 := (by injection e366)
                                have HR366_0 := Aside0.mk hi366_0
                                have HC366_0 := Aside0.mk hl366_0
                                clear hi366_0 hl366_0
                                replace p366 := eq_true p366
                                replace q366 := eq_true q366
                                have ea_ := Option.some.inj (hx365_0.symm.trans hx366_0)
                                injection ea_ with ea_ en_ ec_
                                subst ea_
                                subst ec_
                                clear en_
                                have p367 : 0 ≤ (x6_2 : Int) := of_decide_eq_true (by first | (with_reducible assumption) | assumption)
                                have q367 : x6_2 < ((rd_L5 l1 x5_1).length : Int) := of_decide_eq_true (by first | (with_reducible assumption) | assumption)
                                obtain ⟨ad367, e367, hx367_0⟩ := Kd.at_int HR366_0.out x6_2 p367 q367
                                cases e367
                                replace p367 := eq_true p367
                                replace q367 := eq_true q367
                                have p368 : 0 ≤ (x5_1 : Int) := of_decide_eq_true (by first | (with_reducible assumption) | assumption)
                                have q368 : x5_1 < (l1.length : Int) := of_decide_eq_true (by first | (with_reducible assumption) | assumption)
                                obtain ⟨ad368, A368_0, c368_0, e368, hx368_0, hl368_0, hi368_0⟩ := at_L5 HR1.out x5_1 p368 q368
                                obtain rfl : ad365 = ad368 := (by injection e368)
                                have HR368_0 := Aside0.mk hi368_0
                                have HC368_0 := Aside0.mk hl368_0
                                clear hi368_0 hl368_0
                                replace p368 := eq_true p368
                                replace q368 := eq_true q368
                                have ea_ := Option.some.inj (hx365_0.symm.trans hx368_0)
                                injection ea_ with ea_ en_ ec_
                                subst ea_
                                subst ec_
                                clear en_
                                have p369 : 0 ≤ (x6_2 : Int) := of_decide_eq_true (by first | (with_reducible assumption) | assumption)
                                have q369 : x6_2 < ((rd_L5 l1 x5_1).length : Int) := of_decide_eq_true (by first | (with_reducible assumption) | assumption)
                                obtain ⟨ad369, e369, hx369_0⟩ := Kd.at_int HR368_0.out x6_2 p369 q369
                                cases e369
                                replace p369 := eq_true p369
                                replace q369 := eq_true q369
                                have p370 : 0 ≤ (x5_1 : Int) := of_decide_eq_true (by first | (with_reducible assumption) | assumption)
                                have q370 : x5_1 < (l1.length : Int) := of_decide_eq_true (by first | (with_reducible assumption) | assumption)
                                obtain ⟨ad370, A370_0, c370_0, e370, hx370_0, hl370_0, hi370_0⟩ := at_L5 HR1.out x5_1 p370 q370
                                obtain rfl : ad365 = ad370 := (by injection e370)
                                have HR370_0 := Aside0.mk hi370_0
                                have HC370_0 := Aside0.mk hl370_0
                                clear hi370_0 hl370_0
                                replace p370 := eq_true p370
                                replace q370 := eq_true q370
                                have ea_ := Option.some.inj (hx365_0.symm.trans hx370_0)
                                injection ea_ with ea_ en_ ec_
                                subst ea_
                                subst ec_
                                clear en_
                                have p371 : 0 ≤ ((ji10) : Int) := of_decide_eq_true (by first | (with_reducible assumption) | assumption)
                                have q371 : (ji10) < ((rd_L5 l1 x5_1).length : Int) := of_decide_eq_true (by first | (with_reducible assumption) | assumption)
                                obtain ⟨ad371, e371, hx371_0⟩ := Kd.at_int HR370_0.out (ji10) p371 q371
                                cases e371
                                replace p371 := eq_true p371
                                replace q371 := eq_true q371
                                have p372 : 0 ≤ (x5_1 : Int) := of_decide_eq_true (by first | (with_reducible assumption) | assumption)
                                have q372 : x5_1 < (l0.length : Int) := of_decide_eq_true (by first | (with_reducible assumption) | assumption)
                                obtain ⟨ad372, A372_3, c372_3, e372, hx372_0, hx372_1, hx372_2, hx372_3, hl372_3, hi372_3⟩ := at_T93 HR0.out x5_1 p372 q372
                                cases e372
                                have HR372_3 := Aside0.mk hi372_3
                                have HC372_3 := Aside0.mk hl372_3
                                clear hi372_3 hl372_3
                                replace p372 := eq_true p372
                                replace q372 := eq_true q372
                                go_wp2
                                repeat (go_quiet (fail); try go_wp2)
                                go_ret
                                exact ⟨by first | rfl | (simp; done) | (simp only [← hji10] <;> (first | rfl | simp)) | (simp [*]; done), by repeat (first | exact Drawn0.refl _ | apply Drawn0.step)⟩
                              · rw [if_neg c14] at H
                                have c14b0 : decide ((wrap64 ((rd (rd_L5 l1 x5_1) x6_2) - (rd (rd_L5 l1 x5_1) (ji10)))) < ((rd_T93 l0 x5_1).f1)) = false := decide_eq_false c14
                                clear c14
                                have H' := Aside0.mk H
                                clear H
                                have p365 : 0 ≤ (x5_1 : Int) := of_decide_eq_true (by first | (with_reducible assumption) | assumption)
                                have q365 : x5_1 < (l1.length : Int) := of_decide_eq_true (by first | (with_reducible assumption) | assumption)
                                obtain ⟨ad365, A365_0, c365_0, e365, hx365_0, hl365_0, hi365_0⟩ := at_L5 HR1.out x5_1 p365 q365
                                cases e365
                                have HR365_0 := Aside0.mk hi365_0
                                have HC365_0 := Aside0.mk hl365_0
                                clear hi365_0 hl365_0
                                replace p365 := eq_true p365
                                replace q365 := eq_true q365
                                have p366 : 0 ≤ (x5_1 : Int) := of_decide_eq_true (by first | (with_reducible assumption) | assumption)
                                have q366 : x5_1 < (l1.length : Int) := of_decide_eq_true (by first | (with_reducible assumption) | assumption)
                                obtain ⟨ad366, A366_0, c366_0, e366, hx366_0, hl366_0, hi366_0⟩ := at_L5 HR1.out x5_1 p366 q366
                                obtain rfl : ad365 = ad366 := (by injection e366)
                                have HR366_0 := Aside0.mk hi366_0
                                have HC366_0 := Aside0.mk hl366_0
                                clear hi366_0 hl366_0
                                replace p366 := eq_true p366
                                replace q366 := eq_true q366
                                have ea_ := Option.some.inj (hx365_0.symm.trans hx366_0)
                                injection ea_ with ea_ en_ ec_
                                subst ea_
                                subst ec_
                                clear en_
                                have p367 : 0 ≤ (x6_2 : Int) := of_decide_eq_true (by first | (with_reducible assumption) | assumption)
                                have q367 : x6_2 < ((rd_L5 l1 x5_1).length : Int) := of_decide_eq_true (by first | (with_reducible assumption) | assumption)
                                obtain ⟨ad367, e367, hx367_0⟩ := Kd.at_int HR366_0.out x6_2 p367 q367
                                cases e367
                                replace p367 := eq_true p367
                                replace q367 := eq_true q367
                                have p368 : 0 ≤ (x5_1 : Int) := of_decide_eq_true (by first | (with_reducible assumption) | assumption)
                                have q368 : x5_1 < (l1.length : Int) := of_decide_eq_true (by first | (with_reducible assumption) | assumption)
                                obtain ⟨ad368, A368_0, c368_0, e368, hx368_0, hl368_0, hi368_0⟩ := at_L5 HR1.out x5_1 p368 q368
                                obtain rfl : ad365 = ad368 := (by injection e368)
                                have HR368_0 := Aside0.mk hi368_0
                                have HC368_0 := Aside0.mk hl368_0
                                clear hi368_0 hl368_0
                                replace p368 := eq_true p368
                                replace q368 := eq_true q368
                                have ea_ := Option.some.inj (hx365_0.symm.trans hx368_0)
                                injection ea_ with ea_ en_ ec_
                                subst ea_
                                subst ec_
                                clear en_
                                have p369 : 0 ≤ (x6_2 : Int) := of_decide_eq_true (by first | (with_reducible assumption) | assumption)
                                have q369 : x6_2 < ((rd_L5 l1 x5_1).length : Int) := of_decide_eq_true (by first | (with_reducible assumption) | assumption)
                                obtain ⟨ad369, e369, hx369_0⟩ := Kd.at_int HR368_0.out x6_2 p369 q369
                                cases e369
                                replace p369 := eq_true p369
                                replace q369 := eq_true q369
                                have p370 : 0 ≤ (x5_1 : Int) := of_decide_eq_true (by first | (with_reducible assumption) | assumption)
                                have q370 : x5_1 < (l1.length : Int) := of_decide_eq_true (by first | (with_reducible assumption) | assumption)
                                obtain ⟨ad370, A370_0, c370_0, e370, hx370_0, hl370_0, hi370_0⟩ := at_L5 HR1.out x5_1 p370 q370
                                obtain rfl : ad365 = ad370 := (by injection e370)
                                have HR370_0 := Aside0.mk hi370_0
                                have HC370_0 := Aside0.mk hl370_0
                                clear hi370_0 hl370_0
                                replace p370 := eq_true p370
                                replace q370 := eq_true q370
                                have ea_ := Option.some.inj (hx365_0.symm.trans hx370_0)
                                injection ea_ with ea_ en_ ec_
                                subst ea_
                                subst ec_
                                clear en_
                                have p371 : 0 ≤ ((ji10) : Int) := of_decide_eq_true (by first | (with_reducible assumption) | assumption)
                                have q371 : (ji10) < ((rd_L5 l1 x5_1).length : Int) := of_decide_eq_true (by first | (with_reducible assumption) | assumption)
                                obtain ⟨ad371, e371, hx371_0⟩ := Kd.at_int HR370_0.out (ji10) p371 q371
                                cases e371
                                replace p371 := eq_true p371
                                replace q371 := eq_true q371
                                have p372 : 0 ≤ (x5_1 : Int) := of_decide_eq_true (by first | (with_reducible assumption) | assumption)
                                have q372 : x5_1 < (l0.length : Int) := of_decide_eq_true (by first | (with_reducible assumption) | assumption)
                                obtain ⟨ad372, A372_3, c372_3, e372, hx372_0, hx372_1, hx372_2, hx372_3, hl372_3, hi372_3⟩ := at_T93 HR0.out x5_1 p372 q372
                                cases e372
                                have HR372_3 := Aside0.mk hi372_3
                                have HC372_3 := Aside0.mk hl372_3
                                clear hi372_3 hl372_3
                                replace p372 := eq_true p372
                                replace q372 := eq_true q372
                                go_wp2
                                repeat (go_quiet (fail); try go_wp2)
                                go_roundg k2
                                case measure => have := HK1.out; have := HK2.out; omega
                                case rel => exact ⟨(wrap64 (x6_2 + 1)), (by first | rfl | (simp; done) | (simp [*]; done)), H', ⟨by have := HK1.out; have := HK2.out; omega⟩, by repeat (first | exact Drawn0.refl _ | apply Drawn0.step)⟩
                            · rw [if_neg c13] at H
                              exact absurd H (by simp)
                          · rw [if_neg c12] at H
                            exact absurd H (by simp)
                        · rw [if_neg c11] at H
                          exact absurd H (by simp)
                      · rw [if_neg c9] at H
                        have c9b0 : decide (0 < x6_2) = false := decide_eq_false c9
                        clear c9
                        have H' := Aside0.mk H
                        clear H
                        have p365 : 0 ≤ (x5_1 : Int) := of_decide_eq_true (by first | (with_reducible assumption) | assumption)
                        have q365 : x5_1 < (l1.length : Int) := of_decide_eq_true (by first | (with_reducible assumption) | assumption)
                        obtain ⟨ad365, A365_0, c365_0, e365, hx365_0, hl365_0, hi365_0⟩ := at_L5 HR1.out x5_1 p365 q365
                        cases e365
                        have HR365_0 := Aside0.mk hi365_0
                        have HC365_0 := Aside0.mk hl365_0
                        clear hi365_0 hl365_0
                        replace p365 := eq_true p365
                        replace q365 := eq_true q365
                        have p366 : 0 ≤ (x5_1 : Int) := of_decide_eq_true (by first | (with_reducible assumption) | assumption)
                        have q366 : x5_1 < (l1.length : Int) := of_decide_eq_true (by first | (with_reducible assumption) | assumption)
                        obtain ⟨ad366, A366_0, c366_0, e366, hx366_0, hl366_0, hi366_0⟩ := at_L5 HR1.out x5_1 p366 q366
                        obtain rfl : ad365 = ad366 := (by injection e366)
                        have HR366_0 := Aside0.mk hi366_0
                        have HC366_0 := Aside0.mk hl366_0
                        clear hi366_0 hl366_0
                        replace p366 := eq_true p366
                        replace q366 := eq_true q366
                        have ea_ := Option.some.inj (hx365_0.symm.trans hx366_0)
                        injection ea_ with ea_ en_ ec_
                        subst ea_
                        subst ec_
                        clear en_
                        have p367 : 0 ≤ (x6_2 : Int) := of_decide_eq_true (by first | (with_reducible assumption) | assumption)
                        have q367 : x6_2 < ((rd_L5 l1 x5_1).length : Int) := of_decide_eq_true (by first | (with_reducible assumption) | assumption)
                        obtain ⟨ad367, e367, hx367_0⟩ := Kd.at_int HR366_0.out x6_2 p367 q367
                        cases e367
                        replace p367 := eq_true p367
                        replace q367 := eq_true q367
                        go_wp2
                        repeat (go_quiet (fail); try go_wp2)
                        go_roundg k2
                        case measure => have := HK1.out; have := HK2.out; omega
                        case rel => exact ⟨(wrap64 (x6_2 + 1)), (by first | rfl | (simp; done) | (simp [*]; done)), H', ⟨by have := HK1.out; have := HK2.out; omega⟩, by repeat (first | exact Drawn0.refl _ | apply Drawn0.step)⟩
                  · rw [if_neg c7] at H
                    exact absurd H (by simp)
                · rw [if_neg c6] at H
                  have c6b0 : decide (x6_2 < ((rd_L5 l1 x5_1).length : Int)) = false := decide_eq_false c6
                  clear c6
                  have H' := Aside0.mk H
                  clear H
                  have p365 : 0 ≤ (x5_1 : Int) := of_decide_eq_true (by first | (with_reducible assumption) | assumption)
                  have q365 : x5_1 < (l1.length : Int) := of_decide_eq_true (by first | (with_reducible assumption) | assumption)
                  obtain ⟨ad365, A365_0, c365_0, e365, hx365_0, hl365_0, hi365_0⟩ := at_L5 HR1.out x5_1 p365 q365
                  cases e365
                  have HR365_0 := Aside0.mk hi365_0
                  have HC365_0 := Aside0.mk hl365_0
                  clear hi365_0 hl365_0
                  replace p365 := eq_true p365
                  replace q365 := eq_true q365
                  go_wp2
                  repeat (go_quiet (fail); try go_wp2)
                  go_roundg k2
                  case measure => have := HK1.out; have := HK2.out; omega
                  case rel => exact ⟨(wrap64 (x5_1 + 1)), (by first | rfl | (simp; done) | (simp [*]; done)), H', ⟨by have := HK1.out; have := HK2.out; omega⟩, by repeat (first | exact Drawn0.refl _ | apply Drawn0.step)⟩
              · rw [if_neg c5] at H
                exact absurd H (by simp)
            · rw [if_neg c4] at H
              exact absurd H (by simp)
      · rw [if_neg c3] at H
        have c3b0 : decide (x5_1 < (l0.length : Int)) = false := decide_eq_false c3
        clear c3
        obtain rfl := Option.some.inj H
        go_wp2
        repeat (go_quiet (fail); try go_wp2)
        go_ret
        exact ⟨by first | rfl | (simp; done) | (simp [*]; done), by repeat (first | exact Drawn0.refl _ | apply Drawn0.step)⟩

/-! ### ontimelaw43_few: function 39 -/
mutual
def ontimelaw43_few.j0 : Nat → List (S49) → List (List Int) → Bool → Option (Bool)
  | 0, _, _, _ => none
  | k + 1, x0, x1, x22 => if x22 = true then (some false) else (ontimelaw43_few.l0 k x1 x0 (x0.length : Int) 0)
def ontimelaw43_few.l0 : Nat → List (List Int) → List (S49) → Int → Int → Option (Bool)
  | 0, _, _, _, _ => none
  | k + 1, x1, x23, x24, x25 => if x25 < x24 then (if 0 ≤ x25 then (if x25 < (x23.length : Int) then (if (((rd_T49 x23 x25).f3).length : Int) > 16 then (some false) else (ontimelaw43_few.l0 k x1 x23 x24 (wrap64 (x25 + 1)))) else (none)) else (none)) else (ontimelaw43_few.l1 k x1 (x1.length : Int) 0)
def ontimelaw43_few.l1 : Nat → List (List Int) → Int → Int → Option (Bool)
  | 0, _, _, _ => none
  | k + 1, x34, x35, x36 => if x36 < x35 then (if 0 ≤ x36 then (if x36 < (x34.length : Int) then (if ((rd_L5 x34 x36).length : Int) > 12 then (some false) else (ontimelaw43_few.l1 k x34 x35 (wrap64 (x36 + 1)))) else (none)) else (none)) else (some true)
end
def ontimelaw43_few.f (k : Nat) (l0 : List (S49)) (l1 : List (List Int)) (a2 : Int) : Option (Bool) := if (l0.length : Int) > 6 then (ontimelaw43_few.j0 k l0 l1 true) else (if (l1.length : Int) > 12 then (ontimelaw43_few.j0 k l0 l1 true) else (ontimelaw43_few.j0 k l0 l1 (decide (a2 > 300))))
theorem ontimelaw43_few.mono_l : ∀ k, (∀ y0 y1 y2, LeO (ontimelaw43_few.j0 k y0 y1 y2) (ontimelaw43_few.j0 (k + 1) y0 y1 y2)) ∧ (∀ y0 y1 y2 y3, LeO (ontimelaw43_few.l0 k y0 y1 y2 y3) (ontimelaw43_few.l0 (k + 1) y0 y1 y2 y3)) ∧ (∀ y0 y1 y2, LeO (ontimelaw43_few.l1 k y0 y1 y2) (ontimelaw43_few.l1 (k + 1) y0 y1 y2))
  | 0 => ⟨fun _ _ _ r h => by simp [ontimelaw43_few.j0] at h, fun _ _ _ _ r h => by simp [ontimelaw43_few.l0] at h, fun _ _ _ r h => by simp [ontimelaw43_few.l1] at h⟩
  | k + 1 => by
    obtain ⟨ih0, ih1, ih2⟩ := ontimelaw43_few.mono_l k
    refine ⟨?_, ?_, ?_⟩
    · intro y0 y1 y2
      unfold ontimelaw43_few.j0
      repeat' first
      | (with_reducible exact ih0 _ _ _)
      | (with_reducible exact ih1 _ _ _ _)
      | (with_reducible exact ih2 _ _ _)
      | (with_reducible exact LeO.refl _)
      | (with_reducible exact LeO.none _)
      | (with_reducible refine LeO.ite ?_ ?_)
      | (with_reducible refine LeO.bind ?_ (fun _ => ?_))
      | exact ih0 _ _ _
      | exact ih1 _ _ _ _
      | exact ih2 _ _ _
      | exact LeO.none _
      | refine LeO.ite ?_ ?_
      | refine LeO.bind ?_ (fun _ => ?_)
    · intro y0 y1 y2 y3
      unfold ontimelaw43_few.l0
      repeat' first
      | (with_reducible exact ih0 _ _ _)
      | (with_reducible exact ih1 _ _ _ _)
      | (with_reducible exact ih2 _ _ _)
      | (with_reducible exact LeO.refl _)
      | (with_reducible exact LeO.none _)
      | (with_reducible refine LeO.ite ?_ ?_)
      | (with_reducible refine LeO.bind ?_ (fun _ => ?_))
      | exact ih0 _ _ _
      | exact ih1 _ _ _ _
      | exact ih2 _ _ _
      | exact LeO.none _
      | refine LeO.ite ?_ ?_
      | refine LeO.bind ?_ (fun _ => ?_)
    · intro y0 y1 y2
      unfold ontimelaw43_few.l1
      repeat' first
      | (with_reducible exact ih0 _ _ _)
      | (with_reducible exact ih1 _ _ _ _)
      | (with_reducible exact ih2 _ _ _)
      | (with_reducible exact LeO.refl _)
      | (with_reducible exact LeO.none _)
      | (with_reducible refine LeO.ite ?_ ?_)
      | (with_reducible refine LeO.bind ?_ (fun _ => ?_))
      | exact ih0 _ _ _
      | exact ih1 _ _ _ _
      | exact ih2 _ _ _
      | exact LeO.none _
      | refine LeO.ite ?_ ?_
      | refine LeO.bind ?_ (fun _ => ?_)
theorem ontimelaw43_few.mono : ∀ a0 a1 a2 k, LeO (ontimelaw43_few.f k a0 a1 a2) (ontimelaw43_few.f (k + 1) a0 a1 a2) := by
  intro a0 a1 a2 k
  obtain ⟨ih0, ih1, ih2⟩ := ontimelaw43_few.mono_l k
  unfold ontimelaw43_few.f
  repeat' first
      | (with_reducible exact ih0 _ _ _)
      | (with_reducible exact ih1 _ _ _ _)
      | (with_reducible exact ih2 _ _ _)
      | (with_reducible exact LeO.refl _)
      | (with_reducible exact LeO.none _)
      | (with_reducible refine LeO.ite ?_ ?_)
      | (with_reducible refine LeO.bind ?_ (fun _ => ?_))
      | exact ih0 _ _ _
      | exact ih1 _ _ _ _
      | exact ih2 _ _ _
      | exact LeO.none _
      | refine LeO.ite ?_ ?_
      | refine LeO.bind ?_ (fun _ => ?_)
set_option maxHeartbeats 8000000 in
set_option maxRecDepth 100000 in
theorem ontimelaw43_few.calls (k : Nat) (A0 : Option Addr) (c0 : Nat) (l0 : List (S49)) (A1 : Option Addr) (c1 : Nat) (l1 : List (List Int)) (a2 : Int) (r : Bool) (w : World) (hr0 : Kd.C k49 w A0 l0.length l0) (hc0 : l0.length ≤ c0) (hr1 : Kd.C (Kd.slice 3 (Kd.int .i64)) w A1 l1.length l1) (hc1 : l1.length ≤ c1) (h : ontimelaw43_few.f k l0 l1 a2 = some r) :
    Calls Try.prog 39 #[.slice A0 l0.length c0, .slice A1 l1.length c1, .int .i64 a2] w fun e w' => e = .returned (.bool r) ∧ Below w.heap.size w w' := by
  have hu49 := Try.underlying49
  have HR0 := Aside0.mk hr0
  have HC0 := Aside0.mk hc0
  clear hr0 hc0
  have HR1 := Aside0.mk hr1
  have HC1 := Aside0.mk hc1
  clear hr1 hc1
  have HB := Aside0.mk (Below.refl w.heap.size w)
  have H : (if (l0.length : Int) > 6 then (ontimelaw43_few.j0 k l0 l1 true) else (if (l1.length : Int) > 12 then (ontimelaw43_few.j0 k l0 l1 true) else (ontimelaw43_few.j0 k l0 l1 (decide (a2 > 300))))) = some r := h
  clear h
  have HC4 := Aside0.mk H
  clear H
  go_enter Try.func39, Try.ntmps39
  go_upto_region 1 with (fail)
  go_cut [22] (fun v22 wc => ∃ (kq : Nat) (x22_3 : Bool), v22 = .bool x22_3 ∧ Aside0 (ontimelaw43_few.j0 kq l0 l1 x22_3 = some r) ∧ Aside0 (kq ≤ k) ∧ Aside0 (Below w.heap.size w wc))
  case first =>
    have H := HC4.out
    clear HC4
    by_cases c5 : (l0.length : Int) > 6
    · rw [if_pos c5] at H
      have c5b0 : decide (6 < (l0.length : Int)) = true := decide_eq_true c5
      have c5b1 : decide (6 < l0.length) = true := decide_eq_true (by omega)
      clear c5
      (first | rw [c5b0] | (simp only [i64_w, i32_w]; rw [c5b0]) | skip)
      have H' := Aside0.mk H
      clear H
      go_wp2
      go_meet
      case rel => exact ⟨_, (true), (by first | rfl | (simp; done) | (simp [*]; done)), H', ⟨by first | omega | exact Nat.le_refl _⟩, ⟨by repeat (first | (with_reducible first | exact HB.out | apply below_alloc | apply pw_below_drewN | apply below_drew1) | exact HB.out)⟩⟩
    · rw [if_neg c5] at H
      have c5b0 : decide (6 < (l0.length : Int)) = false := decide_eq_false c5
      have c5b1 : decide (6 < l0.length) = false := decide_eq_false (by omega)
      clear c5
      (first | rw [c5b0] | (simp only [i64_w, i32_w]; rw [c5b0]) | skip)
      by_cases c6 : (l1.length : Int) > 12
      · rw [if_pos c6] at H
        have c6b0 : decide (12 < (l1.length : Int)) = true := decide_eq_true c6
        have c6b1 : decide (12 < l1.length) = true := decide_eq_true (by omega)
        clear c6
        have H' := Aside0.mk H
        clear H
        go_wp2
        go_meet
        case rel => exact ⟨_, (true), (by first | rfl | (simp; done) | (simp [*]; done)), H', ⟨by first | omega | exact Nat.le_refl _⟩, ⟨by repeat (first | (with_reducible first | exact HB.out | apply below_alloc | apply pw_below_drewN | apply below_drew1) | exact HB.out)⟩⟩
      · rw [if_neg c6] at H
        have c6b0 : decide (12 < (l1.length : Int)) = false := decide_eq_false c6
        have c6b1 : decide (12 < l1.length) = false := decide_eq_false (by omega)
        clear c6
        have H' := Aside0.mk H
        clear H
        go_wp2
        go_meet
        case rel => exact ⟨_, (decide (a2 > 300)), (by first | rfl | (simp; done) | (simp [*]; done)), H', ⟨by first | omega | exact Nat.le_refl _⟩, ⟨by repeat (first | (with_reducible first | exact HB.out | apply below_alloc | apply pw_below_drewN | apply below_drew1) | exact HB.out)⟩⟩
  case rest =>
    clear HC4
    try clear c1
    try clear p2
    try clear c3
    try clear c5
    try clear c5b0
    try clear c5b1
    try clear c6
    try clear c6b0
    try clear c6b1
    obtain ⟨kq, x22_3, rfl, HA, HJ3, HB⟩ := hcut
    cases kq with
    | zero => exact absurd HA.out (by simp [ontimelaw43_few.j0])
    | succ kj3 =>
      have H := HA.out
      clear HA
      simp only [ontimelaw43_few.j0] at H
      by_cases c7 : x22_3 = true
      · subst c7
        have H1 : (some false) = some r := by rw [if_pos rfl] at H; exact H
        clear H
        have H := H1
        clear H1
        obtain rfl := Option.some.inj H
        go_wp2
        go_ret
        exact ⟨by first | rfl | (simp [errW_none, errW_some] <;> rfl) | (simp [*, errW_none, errW_some] <;> rfl), by repeat (first | (with_reducible first | exact HB.out | apply below_alloc | apply pw_below_drewN | apply below_drew1) | exact HB.out)⟩
      · replace c7 := Bool.eq_false_iff.mpr c7
        subst c7
        have H1 : (ontimelaw43_few.l0 kj3 l1 l0 (l0.length : Int) 0) = some r := by rw [if_neg (show ¬ (false = true) by decide)] at H; exact H
        clear H
        have H := H1
        clear H1
        have H' := Aside0.mk H
        clear H
        go_wp2
        go_loopg [25] kj3 (fun kq v25 w' => ∃ (x25_2 : Int), v25 = .int .i64 x25_2 ∧ Aside0 (ontimelaw43_few.l0 kq l1 l0 (l0.length : Int) x25_2 = some r) ∧ Aside0 (kq ≤ kj3) ∧ Aside0 (Below w.heap.size w w'))
        case atStart => exact ⟨(0), (by first | rfl | (simp; done) | (simp [*]; done)), H', ⟨Nat.le_refl _⟩, ⟨by repeat (first | (with_reducible first | exact HB.out | apply below_alloc | apply pw_below_drewN | apply below_drew1) | exact HB.out)⟩⟩
        case round =>
          clear H'
          try clear c1
          try clear p2
          try clear c3
          try clear c5
          try clear c5b0
          try clear c5b1
          try clear c6
          try clear c6b0
          try clear c6b1
          try clear c7
          try clear p2
          obtain ⟨x25_2, rfl, HA, HK2, HB⟩ := hrel
          cases gk with
          | zero => exact absurd HA.out (by simp [ontimelaw43_few.l0])
          | succ k2 =>
            have H := HA.out
            clear HA
            simp only [ontimelaw43_few.l0] at H
            by_cases c8 : x25_2 < (l0.length : Int)
            · rw [if_pos c8] at H
              have c8b0 : decide (x25_2 < (l0.length : Int)) = true := decide_eq_true c8
              clear c8
              by_cases c9 : 0 ≤ x25_2
              · rw [if_pos c9] at H
                have c9b0 : decide (0 ≤ x25_2) = true := decide_eq_true c9
                clear c9
                by_cases c10 : x25_2 < (l0.length : Int)
                · rw [if_pos c10] at H
                  have c10b0 : decide (x25_2 < (l0.length : Int)) = true := decide_eq_true c10
                  clear c10
                  by_cases c11 : (((rd_T49 l0 x25_2).f3).length : Int) > 16
                  · rw [if_pos c11] at H
                    have c11b0 : decide (16 < (((rd_T49 l0 x25_2).f3).length : Int)) = true := decide_eq_true c11
                    have c11b1 : decide (16 < ((rd_T49 l0 x25_2).f3).length) = true := decide_eq_true (by omega)
                    clear c11
                    obtain rfl := Option.some.inj H
                    have p373 : 0 ≤ (x25_2 : Int) := of_decide_eq_true (by first | (with_reducible assumption) | assumption)
                    have q373 : x25_2 < (l0.length : Int) := of_decide_eq_true (by first | (with_reducible assumption) | assumption)
                    obtain ⟨ad373, A373_3, c373_3, e373, hx373_0, hx373_1, hx373_2, hx373_3, hl373_3, hi373_3⟩ := at_T49 HR0.out x25_2 p373 q373
                    cases e373
                    replace hx373_0 := (HB.out.cell (World.block_lt_of_cell? w _ hx373_0)).trans hx373_0
                    replace hx373_1 := (HB.out.cell (World.block_lt_of_cell? w _ hx373_1)).trans hx373_1
                    replace hx373_2 := (HB.out.cell (World.block_lt_of_cell? w _ hx373_2)).trans hx373_2
                    replace hx373_3 := (HB.out.cell (World.block_lt_of_cell? w _ hx373_3)).trans hx373_3
                    have HR373_3 := Aside0.mk hi373_3
                    have HC373_3 := Aside0.mk hl373_3
                    clear hi373_3 hl373_3
                    replace p373 := eq_true p373
                    replace q373 := eq_true q373
                    go_wp2_with (first | ((with_reducible refine gate_dst (N := 8) rfl ?_); (try (refine gate_guard (by rfl) ?_; dsimp only)); refine box_event ?hg (N := 8) ?hd (cs := #[.int .i64 0, .int .i64 0, .int .i64 0, .slice none 0 0]) (t := 49) ?hr ?_; (case hd => rfl); (case hg => rfl); (case hr => first | (go_simp; done) | (go_simp; rfl)); intro gb374 hg w12 hbox hb; have n0_ := Aside0.mk (below_step (by repeat (first | (with_reducible first | exact HB.out | apply below_alloc | apply pw_below_drewN | apply below_drew1) | exact HB.out)) hb); have n1_ := Aside0.mk (hbox); have n2_ := Aside0.mk ((by rw [hg]; exact (below_size (by repeat (first | (with_reducible first | exact HB.out | apply below_alloc | apply pw_below_drewN | apply below_drew1) | exact HB.out))) : w.heap.size ≤ gb374)); have n3_ := Aside0.mk ((by rw [hg]; exact (below_size (by repeat (first | (with_reducible first | exact HB.out | apply below_alloc | apply pw_below_drewN | apply below_drew1) | exact HB.out))) : w.heap.size ≤ gb374)); clear HB; have HB := n0_; have BK374 := n1_; have GW374 := n2_; have GE374 := n3_; clear n0_ n1_ n2_ n3_; clear hb hbox hg; have hcz13_0 : w12.cell? ⟨gb374, 0, none⟩ = some (.int .i64 0) := (blk_cell BK374.out 0).trans rfl; have hcz13_1 : w12.cell? ⟨gb374, 1, none⟩ = some (.int .i64 0) := (blk_cell BK374.out 1).trans rfl; have hcz13_2 : w12.cell? ⟨gb374, 2, none⟩ = some (.int .i64 0) := (blk_cell BK374.out 2).trans rfl; have hcz13_3 : w12.cell? ⟨gb374, 3, none⟩ = some (.slice none 0 0) := (blk_cell BK374.out 3).trans rfl; have hfz13_0 := blk_frozen BK374.out 0; have hfz13_1 := blk_frozen BK374.out 1; have hfz13_2 := blk_frozen BK374.out 2; have hfz13_3 := blk_frozen BK374.out 3))
                    go_ret
                    exact ⟨by first | rfl | (simp [errW_none, errW_some] <;> rfl) | (simp [*, errW_none, errW_some] <;> rfl), by repeat (first | (with_reducible first | exact HB.out | apply below_alloc | apply pw_below_drewN | apply below_drew1 | refine below_set ?_ GE374.out) | exact HB.out)⟩
                  · rw [if_neg c11] at H
                    have c11b0 : decide (16 < (((rd_T49 l0 x25_2).f3).length : Int)) = false := decide_eq_false c11
                    have c11b1 : decide (16 < ((rd_T49 l0 x25_2).f3).length) = false := decide_eq_false (by omega)
                    clear c11
                    have H' := Aside0.mk H
                    clear H
                    have p373 : 0 ≤ (x25_2 : Int) := of_decide_eq_true (by first | (with_reducible assumption) | assumption)
                    have q373 : x25_2 < (l0.length : Int) := of_decide_eq_true (by first | (with_reducible assumption) | assumption)
                    obtain ⟨ad373, A373_3, c373_3, e373, hx373_0, hx373_1, hx373_2, hx373_3, hl373_3, hi373_3⟩ := at_T49 HR0.out x25_2 p373 q373
                    cases e373
                    replace hx373_0 := (HB.out.cell (World.block_lt_of_cell? w _ hx373_0)).trans hx373_0
                    replace hx373_1 := (HB.out.cell (World.block_lt_of_cell? w _ hx373_1)).trans hx373_1
                    replace hx373_2 := (HB.out.cell (World.block_lt_of_cell? w _ hx373_2)).trans hx373_2
                    replace hx373_3 := (HB.out.cell (World.block_lt_of_cell? w _ hx373_3)).trans hx373_3
                    have HR373_3 := Aside0.mk hi373_3
                    have HC373_3 := Aside0.mk hl373_3
                    clear hi373_3 hl373_3
                    replace p373 := eq_true p373
                    replace q373 := eq_true q373
                    go_wp2_with (first | ((with_reducible refine gate_dst (N := 8) rfl ?_); (try (refine gate_guard (by rfl) ?_; dsimp only)); refine box_event ?hg (N := 8) ?hd (cs := #[.int .i64 0, .int .i64 0, .int .i64 0, .slice none 0 0]) (t := 49) ?hr ?_; (case hd => rfl); (case hg => rfl); (case hr => first | (go_simp; done) | (go_simp; rfl)); intro gb374 hg w14 hbox hb; have n0_ := Aside0.mk (below_step (by repeat (first | (with_reducible first | exact HB.out | apply below_alloc | apply pw_below_drewN | apply below_drew1) | exact HB.out)) hb); have n1_ := Aside0.mk (hbox); have n2_ := Aside0.mk ((by rw [hg]; exact (below_size (by repeat (first | (with_reducible first | exact HB.out | apply below_alloc | apply pw_below_drewN | apply below_drew1) | exact HB.out))) : w.heap.size ≤ gb374)); have n3_ := Aside0.mk ((by rw [hg]; exact (below_size (by repeat (first | (with_reducible first | exact HB.out | apply below_alloc | apply pw_below_drewN | apply below_drew1) | exact HB.out))) : w.heap.size ≤ gb374)); clear HB; have HB := n0_; have BK374 := n1_; have GW374 := n2_; have GE374 := n3_; clear n0_ n1_ n2_ n3_; clear hb hbox hg; have hcz15_0 : w14.cell? ⟨gb374, 0, none⟩ = some (.int .i64 0) := (blk_cell BK374.out 0).trans rfl; have hcz15_1 : w14.cell? ⟨gb374, 1, none⟩ = some (.int .i64 0) := (blk_cell BK374.out 1).trans rfl; have hcz15_2 : w14.cell? ⟨gb374, 2, none⟩ = some (.int .i64 0) := (blk_cell BK374.out 2).trans rfl; have hcz15_3 : w14.cell? ⟨gb374, 3, none⟩ = some (.slice none 0 0) := (blk_cell BK374.out 3).trans rfl; have hfz15_0 := blk_frozen BK374.out 0; have hfz15_1 := blk_frozen BK374.out 1; have hfz15_2 := blk_frozen BK374.out 2; have hfz15_3 := blk_frozen BK374.out 3))
                    go_roundg k2
                    case measure => have := HJ3.out; have := HK2.out; omega
                    case rel => exact ⟨(wrap64 (x25_2 + 1)), (by first | rfl | (simp; done) | (simp [*]; done)), H', ⟨by have := HJ3.out; have := HK2.out; omega⟩, ⟨by repeat (first | (with_reducible first | exact HB.out | apply below_alloc | apply pw_below_drewN | apply below_drew1 | refine below_set ?_ GE374.out) | exact HB.out)⟩⟩
                · rw [if_neg c10] at H
                  exact absurd H (by simp)
              · rw [if_neg c9] at H
                exact absurd H (by simp)
            · rw [if_neg c8] at H
              have c8b0 : decide (x25_2 < (l0.length : Int)) = false := decide_eq_false c8
              clear c8
              have H' := Aside0.mk H
              clear H
              go_wp2
              go_loopg [36] k2 (fun kq v36 w' => ∃ (x36_3 : Int), v36 = .int .i64 x36_3 ∧ Aside0 (ontimelaw43_few.l1 kq l1 (l1.length : Int) x36_3 = some r) ∧ Aside0 (kq ≤ k2) ∧ Aside0 (Below w.heap.size w w'))
              case atStart => exact ⟨(0), (by first | rfl | (simp; done) | (simp [*]; done)), H', ⟨Nat.le_refl _⟩, ⟨by repeat (first | (with_reducible first | exact HB.out | apply below_alloc | apply pw_below_drewN | apply below_drew1) | exact HB.out)⟩⟩
              case round =>
                clear H'
                try clear c1
                try clear p2
                try clear c3
                try clear p3
                try clear q3
                try clear hx3
                try clear c5
                try clear c5b0
                try clear c5b1
                try clear c6
                try clear c6b0
                try clear c6b1
                try clear p6
                try clear c7
                try clear c8
                try clear c8b0
                try clear c9
                try clear c9b0
                try clear c10
                try clear c10b0
                try clear c11
                try clear c11b0
                try clear c11b1
                try clear hcz13_0
                try clear hcz13_1
                try clear hcz13_2
                try clear hcz13_3
                try clear hcz15_0
                try clear hcz15_1
                try clear hcz15_2
                try clear hcz15_3
                try clear hfz13_0
                try clear hfz13_1
                try clear hfz13_2
                try clear hfz13_3
                try clear hfz15_0
                try clear hfz15_1
                try clear hfz15_2
                try clear hfz15_3
                try clear hx373_0
                try clear hx373_1
                try clear hx373_2
                try clear hx373_3
                try clear p2
                try clear p373
                try clear q373
                obtain ⟨x36_3, rfl, HA, HK3, HB⟩ := hrel
                cases gk with
                | zero => exact absurd HA.out (by simp [ontimelaw43_few.l1])
                | succ k3 =>
                  have H := HA.out
                  clear HA
                  simp only [ontimelaw43_few.l1] at H
                  by_cases c16 : x36_3 < (l1.length : Int)
                  · rw [if_pos c16] at H
                    have c16b0 : decide (x36_3 < (l1.length : Int)) = true := decide_eq_true c16
                    clear c16
                    by_cases c17 : 0 ≤ x36_3
                    · rw [if_pos c17] at H
                      have c17b0 : decide (0 ≤ x36_3) = true := decide_eq_true c17
                      clear c17
                      by_cases c18 : x36_3 < (l1.length : Int)
                      · rw [if_pos c18] at H
                        have c18b0 : decide (x36_3 < (l1.length : Int)) = true := decide_eq_true c18
                        clear c18
                        by_cases c19 : ((rd_L5 l1 x36_3).length : Int) > 12
                        · rw [if_pos c19] at H
                          have c19b0 : decide (12 < ((rd_L5 l1 x36_3).length : Int)) = true := decide_eq_true c19
                          have c19b1 : decide (12 < (rd_L5 l1 x36_3).length) = true := decide_eq_true (by omega)
                          clear c19
                          obtain rfl := Option.some.inj H
                          have p375 : 0 ≤ (x36_3 : Int) := of_decide_eq_true (by first | (with_reducible assumption) | assumption)
                          have q375 : x36_3 < (l1.length : Int) := of_decide_eq_true (by first | (with_reducible assumption) | assumption)
                          obtain ⟨ad375, A375_0, c375_0, e375, hx375_0, hl375_0, hi375_0⟩ := at_L5 HR1.out x36_3 p375 q375
                          cases e375
                          replace hx375_0 := (HB.out.cell (World.block_lt_of_cell? w _ hx375_0)).trans hx375_0
                          have HR375_0 := Aside0.mk hi375_0
                          have HC375_0 := Aside0.mk hl375_0
                          clear hi375_0 hl375_0
                          replace p375 := eq_true p375
                          replace q375 := eq_true q375
                          go_wp2
                          go_ret
                          exact ⟨by first | rfl | (simp [errW_none, errW_some] <;> rfl) | (simp [*, errW_none, errW_some] <;> rfl), by repeat (first | (with_reducible first | exact HB.out | apply below_alloc | apply pw_below_drewN | apply below_drew1) | exact HB.out)⟩
                        · rw [if_neg c19] at H
                          have c19b0 : decide (12 < ((rd_L5 l1 x36_3).length : Int)) = false := decide_eq_false c19
                          have c19b1 : decide (12 < (rd_L5 l1 x36_3).length) = false := decide_eq_false (by omega)
                          clear c19
                          have H' := Aside0.mk H
                          clear H
                          have p375 : 0 ≤ (x36_3 : Int) := of_decide_eq_true (by first | (with_reducible assumption) | assumption)
                          have q375 : x36_3 < (l1.length : Int) := of_decide_eq_true (by first | (with_reducible assumption) | assumption)
                          obtain ⟨ad375, A375_0, c375_0, e375, hx375_0, hl375_0, hi375_0⟩ := at_L5 HR1.out x36_3 p375 q375
                          cases e375
                          replace hx375_0 := (HB.out.cell (World.block_lt_of_cell? w _ hx375_0)).trans hx375_0
                          have HR375_0 := Aside0.mk hi375_0
                          have HC375_0 := Aside0.mk hl375_0
                          clear hi375_0 hl375_0
                          replace p375 := eq_true p375
                          replace q375 := eq_true q375
                          go_wp2
                          go_roundg k3
                          case measure => have := HJ3.out; have := HK2.out; have := HK3.out; omega
                          case rel => exact ⟨(wrap64 (x36_3 + 1)), (by first | rfl | (simp; done) | (simp [*]; done)), H', ⟨by have := HJ3.out; have := HK2.out; have := HK3.out; omega⟩, ⟨by repeat (first | (with_reducible first | exact HB.out | apply below_alloc | apply pw_below_drewN | apply below_drew1) | exact HB.out)⟩⟩
                      · rw [if_neg c18] at H
                        exact absurd H (by simp)
                    · rw [if_neg c17] at H
                      exact absurd H (by simp)
                  · rw [if_neg c16] at H
                    have c16b0 : decide (x36_3 < (l1.length : Int)) = false := decide_eq_false c16
                    clear c16
                    obtain rfl := Option.some.inj H
                    go_wp2
                    go_ret
                    exact ⟨by first | rfl | (simp [errW_none, errW_some] <;> rfl) | (simp [*, errW_none, errW_some] <;> rfl), by repeat (first | (with_reducible first | exact HB.out | apply below_alloc | apply pw_below_drewN | apply below_drew1) | exact HB.out)⟩

end Go.Proofs.Ytcmifojplgmgkaa.P
