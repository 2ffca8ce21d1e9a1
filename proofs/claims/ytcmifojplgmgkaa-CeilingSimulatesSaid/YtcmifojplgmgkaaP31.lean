-- written by wip/drive.py (a driver of this session's own over the kit's print.py)
import Derived.Test.YtcmifojplgmgkaaP0
import Derived.Test.YtcmifojplgmgkaaP3
import Derived.Test.YtcmifojplgmgkaaP19
import Derived.Test.YtcmifojplgmgkaaP29
import Derived.Test.YtcmifojplgmgkaaP30
namespace Go.Proofs.Ytcmifojplgmgkaa.P
open Go.RowKit Go.Proofs.YtcmifojplgmgkaaW.PrintWords Go.Proofs.YtcmifojplgmgkaaW.PrintLast Go.Proofs.YtcmifojplgmgkaaW.PrintMore
attribute [local go_sem] max2_int min2_int max_two min_two max_three min_three max_four min_four   -- for this text's walks alone
set_option linter.unusedVariables false
set_option linter.unusedSimpArgs false

/-! ### ontimelaw43_fits: function 33 -/
def ontimelaw43_fits.f (k : Nat) (l0 : List (S49)) (l1 : List (List Int)) (a2 : Int) : Option (Bool) := (ontimelaw43_few.f k l0 l1 a2).bind fun t366 => (if t366 = true then (if a2 ≥ 0 then ((ceiling_Valid.f k l0).bind fun t367 => (if t367 = true then (if (l1.length : Int) = (l0.length : Int) then ((ontimelaw43_plain.f k l0).bind fun t368 => ((ontimeref43_Spaced.f k t368 l1).bind fun t371 => (some t371))) else (some false)) else (some false))) else (some false)) else (some false))
theorem ontimelaw43_fits.mono : ∀ a0 a1 a2 k, LeO (ontimelaw43_fits.f k a0 a1 a2) (ontimelaw43_fits.f (k + 1) a0 a1 a2) := by
  intro a0 a1 a2 k
  unfold ontimelaw43_fits.f
  repeat' first
      | (with_reducible exact ceiling_Valid.mono _ _)
      | (with_reducible exact ontimelaw43_few.mono _ _ _ _)
      | (with_reducible exact ontimelaw43_plain.mono _ _)
      | (with_reducible exact ontimeref43_Spaced.mono _ _ _)
      | (with_reducible exact LeO.refl _)
      | (with_reducible exact LeO.none _)
      | (with_reducible refine LeO.ite ?_ ?_)
      | (with_reducible refine LeO.bind ?_ (fun _ => ?_))
      | exact ceiling_Valid.mono _ _
      | exact ontimelaw43_few.mono _ _ _ _
      | exact ontimelaw43_plain.mono _ _
      | exact ontimeref43_Spaced.mono _ _ _
      | exact LeO.none _
      | refine LeO.ite ?_ ?_
      | refine LeO.bind ?_ (fun _ => ?_)
set_option maxHeartbeats 8000000 in
set_option maxRecDepth 100000 in
theorem ontimelaw43_fits.calls (k : Nat) (A0 : Option Addr) (c0 : Nat) (l0 : List (S49)) (A1 : Option Addr) (c1 : Nat) (l1 : List (List Int)) (a2 : Int) (r : Bool) (w : World) (hr0 : Kd.C k49 w A0 l0.length l0) (hc0 : l0.length ≤ c0) (hr1 : Kd.C (Kd.slice 3 (Kd.int .i64)) w A1 l1.length l1) (hc1 : l1.length ≤ c1) (h : ontimelaw43_fits.f k l0 l1 a2 = some r) :
    Calls Try.prog 33 #[.slice A0 l0.length c0, .slice A1 l1.length c1, .int .i64 a2] w fun e w' => e = .returned (.bool r) ∧ Below w.heap.size w w' := by
  have HR0 := Aside0.mk hr0
  have HC0 := Aside0.mk hc0
  clear hr0 hc0
  have HR1 := Aside0.mk hr1
  have HC1 := Aside0.mk hc1
  clear hr1 hc1
  have HB := Aside0.mk (Below.refl w.heap.size w)
  have H : ((ontimelaw43_few.f k l0 l1 a2).bind fun t366 => (if t366 = true then (if a2 ≥ 0 then ((ceiling_Valid.f k l0).bind fun t367 => (if t367 = true then (if (l1.length : Int) = (l0.length : Int) then ((ontimelaw43_plain.f k l0).bind fun t368 => ((ontimeref43_Spaced.f k t368 l1).bind fun t371 => (some t371))) else (some false)) else (some false))) else (some false)) else (some false))) = some r := h
  clear h
  replace H := Option.bind_eq_some_iff.mp H
  obtain ⟨t366, A40, H⟩ := H
  replace H : (if t366 = true then (if a2 ≥ 0 then ((ceiling_Valid.f k l0).bind fun t367 => (if t367 = true then (if (l1.length : Int) = (l0.length : Int) then ((ontimelaw43_plain.f k l0).bind fun t368 => ((ontimeref43_Spaced.f k t368 l1).bind fun t371 => (some t371))) else (some false)) else (some false))) else (some false)) else (some false)) = some r := H
  have A4 := Aside0.mk A40
  clear A40
  by_cases c5 : t366 = true
  · subst c5
    have H1 : (if a2 ≥ 0 then ((ceiling_Valid.f k l0).bind fun t367 => (if t367 = true then (if (l1.length : Int) = (l0.length : Int) then ((ontimelaw43_plain.f k l0).bind fun t368 => ((ontimeref43_Spaced.f k t368 l1).bind fun t371 => (some t371))) else (some false)) else (some false))) else (some false)) = some r := by rw [if_pos rfl] at H; exact H
    clear H
    have H := H1
    clear H1
    by_cases c6 : a2 ≥ 0
    · rw [if_pos c6] at H
      have c6b0 : decide (0 ≤ a2) = true := decide_eq_true c6
      clear c6
      replace H := Option.bind_eq_some_iff.mp H
      obtain ⟨t367, A70, H⟩ := H
      replace H : (if t367 = true then (if (l1.length : Int) = (l0.length : Int) then ((ontimelaw43_plain.f k l0).bind fun t368 => ((ontimeref43_Spaced.f k t368 l1).bind fun t371 => (some t371))) else (some false)) else (some false)) = some r := H
      have A7 := Aside0.mk A70
      clear A70
      by_cases c8 : t367 = true
      · subst c8
        have H1 : (if (l1.length : Int) = (l0.length : Int) then ((ontimelaw43_plain.f k l0).bind fun t368 => ((ontimeref43_Spaced.f k t368 l1).bind fun t371 => (some t371))) else (some false)) = some r := by rw [if_pos rfl] at H; exact H
        clear H
        have H := H1
        clear H1
        by_cases c9 : (l1.length : Int) = (l0.length : Int)
        · rw [if_pos c9] at H
          have c9b0 : ((l1.length : Int) == (l0.length : Int)) = true := beq_iff_eq.mpr c9
          have c9b1 : ((l1.length : Int) != (l0.length : Int)) = false := bne_eq_false_iff_eq.mpr c9
          have c9b2 : (l1.length == l0.length) = true := by first | simpa using c9 | (simp at c9 ⊢; omega)
          clear c9
          replace H := Option.bind_eq_some_iff.mp H
          obtain ⟨t368, A100, H⟩ := H
          replace H : ((ontimeref43_Spaced.f k t368 l1).bind fun t371 => (some t371)) = some r := H
          have A10 := Aside0.mk A100
          clear A100
          replace H := Option.bind_eq_some_iff.mp H
          obtain ⟨t371, A110, H⟩ := H
          replace H : (some t371) = some r := H
          have A11 := Aside0.mk A110
          clear A110
          obtain rfl := Option.some.inj H
          go_enter Try.func33, Try.ntmps33
          go_wp2_with (first | ((with_reducible refine gate_callee (f := 39) rfl ?_); refine goesL_ (some 10) rfl rfl Try.func39 (by kernel_rfl) rfl #[.slice A0 l0.length c0, .slice A1 l1.length c1, .int .i64 a2] rfl (by (try simp only [List.map_toArray, List.map_cons, List.map_nil]); first | done | rfl | (simp only [List.length_drop, List.length_take]; rfl)) ?_; (with_reducible refine (ontimelaw43_few.calls k _ _ l0 _ _ l1 a2 true _ ?side1 ?side2 ?side3 ?side4 A4.out).mono ?_); (case side1 => repeat (first | exact HR0.out | (with_reducible refine Kd.C_alloc ?_ _) | (with_reducible refine Kd.C_drewN ?_ _) | (with_reducible refine Kd.C_drew ?_))); (case side2 => exact HC0.out); (case side3 => repeat (first | exact HR1.out | (with_reducible refine Kd.C_alloc ?_ _) | (with_reducible refine Kd.C_drewN ?_ _) | (with_reducible refine Kd.C_drew ?_))); (case side4 => exact HC1.out); rintro e w12 ⟨rfl, hb⟩; refine ⟨_, rfl, ?_⟩; have n0_ := Aside0.mk (below_step (by repeat (first | (with_reducible first | exact HB.out | apply below_alloc | apply pw_below_drewN | apply below_drew1) | exact HB.out)) hb); clear HB; have HB := n0_; clear n0_; (try clear hb); (try clear hb2); (try clear hk); (try clear hi)) | (go_at_call 20; (with_reducible refine (ceiling_Valid.calls k _ _ l0 true _ ?side1 ?side2 A7.out).mono ?_); (case side1 => repeat (first | exact (Kd.C_below HR0.out HB.out) | (with_reducible refine Kd.C_alloc ?_ _) | (with_reducible refine Kd.C_drewN ?_ _) | (with_reducible refine Kd.C_drew ?_))); (case side2 => exact HC0.out); rintro e w13 ⟨rfl, hb⟩; have n0_ := Aside0.mk (below_step (by repeat (first | (with_reducible first | exact HB.out | apply below_alloc | apply pw_below_drewN | apply below_drew1) | exact HB.out)) hb); clear HB; have HB := n0_; clear n0_; (try clear hb); (try clear hb2); (try clear hk); (try clear hi)) | (go_at_call 35; (with_reducible refine (ontimelaw43_plain.calls k _ _ l0 t368 _ ?side1 ?side2 A10.out).mono ?_); (case side1 => repeat (first | exact (Kd.C_below HR0.out HB.out) | (with_reducible refine Kd.C_alloc ?_ _) | (with_reducible refine Kd.C_drewN ?_ _) | (with_reducible refine Kd.C_drew ?_))); (case side2 => exact HC0.out); rintro e w14 ⟨v369, rfl, ho0, hb⟩; have n0_ := Aside0.mk (Kd.S_lower ho0 (below_size (by repeat (first | (with_reducible first | exact HB.out | apply below_alloc | apply pw_below_drewN | apply below_drew1) | exact HB.out)))); have n1_ := Aside0.mk (below_step (by repeat (first | (with_reducible first | exact HB.out | apply below_alloc | apply pw_below_drewN | apply below_drew1) | exact HB.out)) hb); clear HB; have HO370 := n0_; have HB := n1_; clear n0_ n1_; (try clear hb); (try clear hb2); (try clear hk); (try clear hi); (try clear ho0); obtain ⟨Ao15, co15, eo15⟩ := Kd.S_slice HO370.out; subst eo15) | (go_at_call 37; (with_reducible refine (ontimeref43_Spaced.calls k _ _ t368 _ _ l1 t371 _ ?side1 ?side2 ?side3 ?side4 A11.out).mono ?_); (case side1 => repeat (first | exact (Kd.S_reads' HO370.out).2.2 | (with_reducible refine Kd.C_alloc ?_ _) | (with_reducible refine Kd.C_drewN ?_ _) | (with_reducible refine Kd.C_drew ?_))); (case side2 => exact (Kd.S_reads' HO370.out).2.1); (case side3 => repeat (first | exact (Kd.C_below HR1.out HB.out) | (with_reducible refine Kd.C_alloc ?_ _) | (with_reducible refine Kd.C_drewN ?_ _) | (with_reducible refine Kd.C_drew ?_))); (case side4 => exact HC1.out); rintro e w' ⟨rfl, ⟨nd, rfl⟩⟩))
          go_ret
          exact ⟨by first | rfl | (simp [errW_none, errW_some] <;> rfl) | (simp [*, errW_none, errW_some] <;> rfl), by repeat (first | (with_reducible first | exact HB.out | apply below_alloc | apply pw_below_drewN | apply below_drew1) | exact HB.out)⟩
        · rw [if_neg c9] at H
          have c9b0 : ((l1.length : Int) == (l0.length : Int)) = false := beq_eq_false_iff_ne.mpr c9
          have c9b1 : ((l1.length : Int) != (l0.length : Int)) = true := bne_iff_ne.mpr c9
          have c9b2 : (l1.length == l0.length) = false := by first | simpa using c9 | (simp at c9 ⊢; omega)
          obtain rfl := Option.some.inj H
          go_enter Try.func33, Try.ntmps33
          go_wp2_with (first | ((with_reducible refine gate_callee (f := 39) rfl ?_); refine goesL_ (some 10) rfl rfl Try.func39 (by kernel_rfl) rfl #[.slice A0 l0.length c0, .slice A1 l1.length c1, .int .i64 a2] rfl (by (try simp only [List.map_toArray, List.map_cons, List.map_nil]); first | done | rfl | (simp only [List.length_drop, List.length_take]; rfl)) ?_; (with_reducible refine (ontimelaw43_few.calls k _ _ l0 _ _ l1 a2 true _ ?side1 ?side2 ?side3 ?side4 A4.out).mono ?_); (case side1 => repeat (first | exact HR0.out | (with_reducible refine Kd.C_alloc ?_ _) | (with_reducible refine Kd.C_drewN ?_ _) | (with_reducible refine Kd.C_drew ?_))); (case side2 => exact HC0.out); (case side3 => repeat (first | exact HR1.out | (with_reducible refine Kd.C_alloc ?_ _) | (with_reducible refine Kd.C_drewN ?_ _) | (with_reducible refine Kd.C_drew ?_))); (case side4 => exact HC1.out); rintro e w16 ⟨rfl, hb⟩; refine ⟨_, rfl, ?_⟩; have n0_ := Aside0.mk (below_step (by repeat (first | (with_reducible first | exact HB.out | apply below_alloc | apply pw_below_drewN | apply below_drew1) | exact HB.out)) hb); clear HB; have HB := n0_; clear n0_; (try clear hb); (try clear hb2); (try clear hk); (try clear hi)) | (go_at_call 20; (with_reducible refine (ceiling_Valid.calls k _ _ l0 true _ ?side1 ?side2 A7.out).mono ?_); (case side1 => repeat (first | exact (Kd.C_below HR0.out HB.out) | (with_reducible refine Kd.C_alloc ?_ _) | (with_reducible refine Kd.C_drewN ?_ _) | (with_reducible refine Kd.C_drew ?_))); (case side2 => exact HC0.out); rintro e w17 ⟨rfl, hb⟩; have n0_ := Aside0.mk (below_step (by repeat (first | (with_reducible first | exact HB.out | apply below_alloc | apply pw_below_drewN | apply below_drew1) | exact HB.out)) hb); clear HB; have HB := n0_; clear n0_; (try clear hb); (try clear hb2); (try clear hk); (try clear hi)))
          go_ret
          exact ⟨by first | rfl | (simp [errW_none, errW_some] <;> rfl) | (simp [*, errW_none, errW_some] <;> rfl), by repeat (first | (with_reducible first | exact HB.out | apply below_alloc | apply pw_below_drewN | apply below_drew1) | exact HB.out)⟩
      · replace c8 := Bool.eq_false_iff.mpr c8
        subst c8
        have H1 : (some false) = some r := by rw [if_neg (show ¬ (false = true) by decide)] at H; exact H
        clear H
        have H := H1
        clear H1
        obtain rfl := Option.some.inj H
        go_enter Try.func33, Try.ntmps33
        go_wp2_with (first | ((with_reducible refine gate_callee (f := 39) rfl ?_); refine goesL_ (some 10) rfl rfl Try.func39 (by kernel_rfl) rfl #[.slice A0 l0.length c0, .slice A1 l1.length c1, .int .i64 a2] rfl (by (try simp only [List.map_toArray, List.map_cons, List.map_nil]); first | done | rfl | (simp only [List.length_drop, List.length_take]; rfl)) ?_; (with_reducible refine (ontimelaw43_few.calls k _ _ l0 _ _ l1 a2 true _ ?side1 ?side2 ?side3 ?side4 A4.out).mono ?_); (case side1 => repeat (first | exact HR0.out | (with_reducible refine Kd.C_alloc ?_ _) | (with_reducible refine Kd.C_drewN ?_ _) | (with_reducible refine Kd.C_drew ?_))); (case side2 => exact HC0.out); (case side3 => repeat (first | exact HR1.out | (with_reducible refine Kd.C_alloc ?_ _) | (with_reducible refine Kd.C_drewN ?_ _) | (with_reducible refine Kd.C_drew ?_))); (case side4 => exact HC1.out); rintro e w18 ⟨rfl, hb⟩; refine ⟨_, rfl, ?_⟩; have n0_ := Aside0.mk (below_step (by repeat (first | (with_reducible first | exact HB.out | apply below_alloc | apply pw_below_drewN | apply below_drew1) | exact HB.out)) hb); clear HB; have HB := n0_; clear n0_; (try clear hb); (try clear hb2); (try clear hk); (try clear hi)) | (go_at_call 20; (with_reducible refine (ceiling_Valid.calls k _ _ l0 false _ ?side1 ?side2 A7.out).mono ?_); (case side1 => repeat (first | exact (Kd.C_below HR0.out HB.out) | (with_reducible refine Kd.C_alloc ?_ _) | (with_reducible refine Kd.C_drewN ?_ _) | (with_reducible refine Kd.C_drew ?_))); (case side2 => exact HC0.out); rintro e w19 ⟨rfl, hb⟩; have n0_ := Aside0.mk (below_step (by repeat (first | (with_reducible first | exact HB.out | apply below_alloc | apply pw_below_drewN | apply below_drew1) | exact HB.out)) hb); clear HB; have HB := n0_; clear n0_; (try clear hb); (try clear hb2); (try clear hk); (try clear hi)))
        go_ret
        exact ⟨by first | rfl | (simp [errW_none, errW_some] <;> rfl) | (simp [*, errW_none, errW_some] <;> rfl), by repeat (first | (with_reducible first | exact HB.out | apply below_alloc | apply pw_below_drewN | apply below_drew1) | exact HB.out)⟩
    · rw [if_neg c6] at H
      have c6b0 : decide (0 ≤ a2) = false := decide_eq_false c6
      clear c6
      obtain rfl := Option.some.inj H
      go_enter Try.func33, Try.ntmps33
      go_wp2_with (first | ((with_reducible refine gate_callee (f := 39) rfl ?_); refine goesL_ (some 10) rfl rfl Try.func39 (by kernel_rfl) rfl #[.slice A0 l0.length c0, .slice A1 l1.length c1, .int .i64 a2] rfl (by (try simp only [List.map_toArray, List.map_cons, List.map_nil]); first | done | rfl | (simp only [List.length_drop, List.length_take]; rfl)) ?_; (with_reducible refine (ontimelaw43_few.calls k _ _ l0 _ _ l1 a2 true _ ?side1 ?side2 ?side3 ?side4 A4.out).mono ?_); (case side1 => repeat (first | exact HR0.out | (with_reducible refine Kd.C_alloc ?_ _) | (with_reducible refine Kd.C_drewN ?_ _) | (with_reducible refine Kd.C_drew ?_))); (case side2 => exact HC0.out); (case side3 => repeat (first | exact HR1.out | (with_reducible refine Kd.C_alloc ?_ _) | (with_reducible refine Kd.C_drewN ?_ _) | (with_reducible refine Kd.C_drew ?_))); (case side4 => exact HC1.out); rintro e w20 ⟨rfl, hb⟩; refine ⟨_, rfl, ?_⟩; have n0_ := Aside0.mk (below_step (by repeat (first | (with_reducible first | exact HB.out | apply below_alloc | apply pw_below_drewN | apply below_drew1) | exact HB.out)) hb); clear HB; have HB := n0_; clear n0_; (try clear hb); (try clear hb2); (try clear hk); (try clear hi)))
      go_ret
      exact ⟨by first | rfl | (simp [errW_none, errW_some] <;> rfl) | (simp [*, errW_none, errW_some] <;> rfl), by repeat (first | (with_reducible first | exact HB.out | apply below_alloc | apply pw_below_drewN | apply below_drew1) | exact HB.out)⟩
  · replace c5 := Bool.eq_false_iff.mpr c5
    subst c5
    have H1 : (some false) = some r := by rw [if_neg (show ¬ (false = true) by decide)] at H; exact H
    clear H
    have H := H1
    clear H1
    obtain rfl := Option.some.inj H
    go_enter Try.func33, Try.ntmps33
    go_wp2_with (first | ((with_reducible refine gate_callee (f := 39) rfl ?_); refine goesL_ (some 10) rfl rfl Try.func39 (by kernel_rfl) rfl #[.slice A0 l0.length c0, .slice A1 l1.length c1, .int .i64 a2] rfl (by (try simp only [List.map_toArray, List.map_cons, List.map_nil]); first | done | rfl | (simp only [List.length_drop, List.length_take]; rfl)) ?_; (with_reducible refine (ontimelaw43_few.calls k _ _ l0 _ _ l1 a2 false _ ?side1 ?side2 ?side3 ?side4 A4.out).mono ?_); (case side1 => repeat (first | exact HR0.out | (with_reducible refine Kd.C_alloc ?_ _) | (with_reducible refine Kd.C_drewN ?_ _) | (with_reducible refine Kd.C_drew ?_))); (case side2 => exact HC0.out); (case side3 => repeat (first | exact HR1.out | (with_reducible refine Kd.C_alloc ?_ _) | (with_reducible refine Kd.C_drewN ?_ _) | (with_reducible refine Kd.C_drew ?_))); (case side4 => exact HC1.out); rintro e w21 ⟨rfl, hb⟩; refine ⟨_, rfl, ?_⟩; have n0_ := Aside0.mk (below_step (by repeat (first | (with_reducible first | exact HB.out | apply below_alloc | apply pw_below_drewN | apply below_drew1) | exact HB.out)) hb); clear HB; have HB := n0_; clear n0_; (try clear hb); (try clear hb2); (try clear hk); (try clear hi)))
    go_ret
    exact ⟨by first | rfl | (simp [errW_none, errW_some] <;> rfl) | (simp [*, errW_none, errW_some] <;> rfl), by repeat (first | (with_reducible first | exact HB.out | apply below_alloc | apply pw_below_drewN | apply below_drew1) | exact HB.out)⟩

/-! ### ontimeref43_Held: function 60 -/
def ontimeref43_Held.l0 : Nat → Int → Int → Int → Int → Int → List (S94) → Option (Int × Bool)
  | 0, _, _, _, _, _, _ => none
  | k + 1, x1, x6, x373000, x373001, x373002, x373003 => if x6 < (x373003.length : Int) then (if 0 ≤ x6 then (if ((rd_T94 x373003 x6).f1) < x1 then (if x1 < ((rd_T94 x373003 x6).f2) then (some ((rd_T94 x373003 x6).f0, true)) else (ontimeref43_Held.l0 k x1 (wrap64 (x6 + 1)) x373000 x373001 x373002 x373003)) else (ontimeref43_Held.l0 k x1 (wrap64 (x6 + 1)) x373000 x373001 x373002 x373003)) else (none)) else (some (0, false))
def ontimeref43_Held.f (k : Nat) (a0_0 : Int) (a0_1 : Int) (a0_2 : Int) (l0_3 : List (S94)) (a1 : Int) : Option (Int × Bool) := ontimeref43_Held.l0 k a1 0 a0_0 a0_1 a0_2 l0_3
theorem ontimeref43_Held.mono_l : ∀ k, (∀ y0 y1 y2 y3 y4 y5, LeO (ontimeref43_Held.l0 k y0 y1 y2 y3 y4 y5) (ontimeref43_Held.l0 (k + 1) y0 y1 y2 y3 y4 y5))
  | 0 => fun _ _ _ _ _ _ r h => by simp [ontimeref43_Held.l0] at h
  | k + 1 => by
    have ih0 := ontimeref43_Held.mono_l k
    · intro y0 y1 y2 y3 y4 y5
      unfold ontimeref43_Held.l0
      repeat' first
      | (with_reducible exact ih0 _ _ _ _ _ _)
      | (with_reducible exact LeO.refl _)
      | (with_reducible exact LeO.none _)
      | (with_reducible refine LeO.ite ?_ ?_)
      | (with_reducible refine LeO.bind ?_ (fun _ => ?_))
      | exact ih0 _ _ _ _ _ _
      | exact LeO.none _
      | refine LeO.ite ?_ ?_
      | refine LeO.bind ?_ (fun _ => ?_)
theorem ontimeref43_Held.mono : ∀ a0 a1 a2 a3 a4 k, LeO (ontimeref43_Held.f k a0 a1 a2 a3 a4) (ontimeref43_Held.f (k + 1) a0 a1 a2 a3 a4) := by
  intro a0 a1 a2 a3 a4 k
  have ih0 := ontimeref43_Held.mono_l k
  unfold ontimeref43_Held.f
  repeat' first
      | (with_reducible exact ih0 _ _ _ _ _ _)
      | (with_reducible exact LeO.refl _)
      | (with_reducible exact LeO.none _)
      | (with_reducible refine LeO.ite ?_ ?_)
      | (with_reducible refine LeO.bind ?_ (fun _ => ?_))
      | exact ih0 _ _ _ _ _ _
      | exact LeO.none _
      | refine LeO.ite ?_ ?_
      | refine LeO.bind ?_ (fun _ => ?_)
set_option maxHeartbeats 8000000 in
set_option maxRecDepth 100000 in
theorem ontimeref43_Held.calls (k : Nat) (a0_0 : Int) (a0_1 : Int) (a0_2 : Int) (A0_3 : Option Addr) (c0_3 : Nat) (l0_3 : List (S94)) (a1 : Int) (r1 : Int) (r2 : Bool) (w : World) (hr0_3 : Kd.C k94 w A0_3 l0_3.length l0_3) (hc0_3 : l0_3.length ≤ c0_3) (h : ontimeref43_Held.f k a0_0 a0_1 a0_2 l0_3 a1 = some (r1, r2)) :
    Calls Try.prog 60 #[.agg #[.int .i64 a0_0, .int .i64 a0_1, .int .i64 a0_2, .slice A0_3 l0_3.length c0_3], .int .i64 a1] w fun e w' => e = .returned (.tuple #[.int .i64 r1, .bool r2]) ∧ Below w.heap.size w w' := by
  have hu93 := Try.underlying93
  have HR0_3 := Aside0.mk hr0_3
  have HC0_3 := Aside0.mk hc0_3
  clear hr0_3 hc0_3
  have HB := Aside0.mk (Below.refl w.heap.size w)
  have H : (ontimeref43_Held.l0 k a1 0 a0_0 a0_1 a0_2 l0_3) = some (r1, r2) := h
  clear h
  have H' := Aside0.mk H
  clear H
  go_enter Try.func60, Try.ntmps60
  go_wp2_with (first | ((with_reducible refine gate_dst (N := 2) rfl ?_); refine box_event ?hg (N := 2) ?hd (cs := #[.int .i64 a0_0, .int .i64 a0_1, .int .i64 a0_2, .slice A0_3 l0_3.length c0_3]) (t := 93) ?hr ?_; (case hd => rfl); (case hg => rfl); (case hr => first | (go_simp; done) | (go_simp; rfl)); intro gb372 hg w3 hbox hb; have n0_ := Aside0.mk (below_step (by repeat (first | (with_reducible first | exact HB.out | apply below_alloc | apply pw_below_drewN | apply below_drew1) | exact HB.out)) hb); have n1_ := Aside0.mk (hbox); have n2_ := Aside0.mk ((by rw [hg]; exact (below_size (by repeat (first | (with_reducible first | exact HB.out | apply below_alloc | apply pw_below_drewN | apply below_drew1) | exact HB.out))) : w.heap.size ≤ gb372)); have n3_ := Aside0.mk ((by rw [hg]; exact (below_size (by repeat (first | (with_reducible first | exact HB.out | apply below_alloc | apply pw_below_drewN | apply below_drew1) | exact HB.out))) : w.heap.size ≤ gb372)); clear HB; have HB := n0_; have BK372 := n1_; have GW372 := n2_; have GE372 := n3_; clear n0_ n1_ n2_ n3_; clear hb hbox hg))
  go_loopg [6] k (fun kq v6 w' => ∃ (x6_1 : Int), v6 = .int .i64 x6_1 ∧ Aside0 (ontimeref43_Held.l0 kq a1 x6_1 a0_0 a0_1 a0_2 l0_3 = some (r1, r2)) ∧ Aside0 (kq ≤ k) ∧ Aside0 (w'.heap[gb372]? = some (.cells #[.int .i64 a0_0, .int .i64 a0_1, .int .i64 a0_2, (.slice A0_3 l0_3.length c0_3)] 93 (0, 0))) ∧ Aside0 (Below w.heap.size w w'))
  case atStart => exact ⟨(0), (by first | rfl | (simp; done) | (simp [*]; done)), H', ⟨Nat.le_refl _⟩, ⟨by (with_reducible repeat (first | refine blk_drewN ?_ _ | refine blk_drew ?_ | refine blk_alloc ?_ _)); exact BK372.out⟩, ⟨by repeat (first | (with_reducible first | exact HB.out | apply below_alloc | apply pw_below_drewN | apply below_drew1 | refine below_set ?_ GE372.out) | exact HB.out)⟩⟩
  case round =>
    clear H'
    try clear p2
    obtain ⟨x6_1, rfl, HA, HK1, BK372, HB⟩ := hrel
    cases gk with
    | zero => exact absurd HA.out (by simp [ontimeref43_Held.l0])
    | succ k1 =>
      have H := HA.out
      clear HA
      simp only [ontimeref43_Held.l0] at H
      by_cases c4 : x6_1 < (l0_3.length : Int)
      · rw [if_pos c4] at H
        have c4b0 : decide (x6_1 < (l0_3.length : Int)) = true := decide_eq_true c4
        clear c4
        by_cases c5 : 0 ≤ x6_1
        · rw [if_pos c5] at H
          have c5b0 : decide (0 ≤ x6_1) = true := decide_eq_true c5
          clear c5
          by_cases c6 : ((rd_T94 l0_3 x6_1).f1) < a1
          · rw [if_pos c6] at H
            have c6b0 : decide (((rd_T94 l0_3 x6_1).f1) < a1) = true := decide_eq_true c6
            clear c6
            by_cases c7 : a1 < ((rd_T94 l0_3 x6_1).f2)
            · rw [if_pos c7] at H
              have c7b0 : decide (a1 < ((rd_T94 l0_3 x6_1).f2)) = true := decide_eq_true c7
              clear c7
              simp only [Option.some.injEq, Prod.mk.injEq] at H
              obtain ⟨rfl, rfl⟩ := H
              have hcz8_0 : wr.cell? ⟨gb372, 0, none⟩ = some (.int .i64 a0_0) := (blk_cell BK372.out 0).trans rfl
              have hcz8_1 : wr.cell? ⟨gb372, 1, none⟩ = some (.int .i64 a0_1) := (blk_cell BK372.out 1).trans rfl
              have hcz8_2 : wr.cell? ⟨gb372, 2, none⟩ = some (.int .i64 a0_2) := (blk_cell BK372.out 2).trans rfl
              have hcz8_3 : wr.cell? ⟨gb372, 3, none⟩ = some (.slice A0_3 l0_3.length c0_3) := (blk_cell BK372.out 3).trans rfl
              have hfz8_0 := blk_frozen BK372.out 0
              have hfz8_1 := blk_frozen BK372.out 1
              have hfz8_2 := blk_frozen BK372.out 2
              have hfz8_3 := blk_frozen BK372.out 3
              have p373 : 0 ≤ (x6_1 : Int) := of_decide_eq_true (by first | (with_reducible assumption) | assumption)
              have q373 : x6_1 < (l0_3.length : Int) := of_decide_eq_true (by first | (with_reducible assumption) | assumption)
              obtain ⟨ad373, e373, hx373_0, hx373_1, hx373_2⟩ := at_T94 HR0_3.out x6_1 p373 q373
              cases e373
              replace hx373_0 := (HB.out.cell (World.block_lt_of_cell? w _ hx373_0)).trans hx373_0
              replace hx373_1 := (HB.out.cell (World.block_lt_of_cell? w _ hx373_1)).trans hx373_1
              replace hx373_2 := (HB.out.cell (World.block_lt_of_cell? w _ hx373_2)).trans hx373_2
              replace p373 := eq_true p373
              replace q373 := eq_true q373
              have p374 : 0 ≤ (x6_1 : Int) := of_decide_eq_true (by first | (with_reducible assumption) | assumption)
              have q374 : x6_1 < (l0_3.length : Int) := of_decide_eq_true (by first | (with_reducible assumption) | assumption)
              obtain ⟨ad374, e374, hx374_0, hx374_1, hx374_2⟩ := at_T94 HR0_3.out x6_1 p374 q374
              obtain rfl : ad373 = ad374 := (by injection e374)
              replace hx374_0 := (HB.out.cell (World.block_lt_of_cell? w _ hx374_0)).trans hx374_0
              replace hx374_1 := (HB.out.cell (World.block_lt_of_cell? w _ hx374_1)).trans hx374_1
              replace hx374_2 := (HB.out.cell (World.block_lt_of_cell? w _ hx374_2)).trans hx374_2
              replace p374 := eq_true p374
              replace q374 := eq_true q374
              have p375 : 0 ≤ (x6_1 : Int) := of_decide_eq_true (by first | (with_reducible assumption) | assumption)
              have q375 : x6_1 < (l0_3.length : Int) := of_decide_eq_true (by first | (with_reducible assumption) | assumption)
              obtain ⟨ad375, e375, hx375_0, hx375_1, hx375_2⟩ := at_T94 HR0_3.out x6_1 p375 q375
              obtain rfl : ad373 = ad375 := (by injection e375)
              replace hx375_0 := (HB.out.cell (World.block_lt_of_cell? w _ hx375_0)).trans hx375_0
              replace hx375_1 := (HB.out.cell (World.block_lt_of_cell? w _ hx375_1)).trans hx375_1
              replace hx375_2 := (HB.out.cell (World.block_lt_of_cell? w _ hx375_2)).trans hx375_2
              replace p375 := eq_true p375
              replace q375 := eq_true q375
              go_wp2
              go_ret2
              exact ⟨by first | rfl | (simp [errW_none, errW_some] <;> rfl) | (simp [*, errW_none, errW_some] <;> rfl), by repeat (first | (with_reducible first | exact HB.out | apply below_alloc | apply pw_below_drewN | apply below_drew1 | refine below_set ?_ GE372.out) | exact HB.out)⟩
            · rw [if_neg c7] at H
              have c7b0 : decide (a1 < ((rd_T94 l0_3 x6_1).f2)) = false := decide_eq_false c7
              clear c7
              have H' := Aside0.mk H
              clear H
              have hcz9_0 : wr.cell? ⟨gb372, 0, none⟩ = some (.int .i64 a0_0) := (blk_cell BK372.out 0).trans rfl
              have hcz9_1 : wr.cell? ⟨gb372, 1, none⟩ = some (.int .i64 a0_1) := (blk_cell BK372.out 1).trans rfl
              have hcz9_2 : wr.cell? ⟨gb372, 2, none⟩ = some (.int .i64 a0_2) := (blk_cell BK372.out 2).trans rfl
              have hcz9_3 : wr.cell? ⟨gb372, 3, none⟩ = some (.slice A0_3 l0_3.length c0_3) := (blk_cell BK372.out 3).trans rfl
              have hfz9_0 := blk_frozen BK372.out 0
              have hfz9_1 := blk_frozen BK372.out 1
              have hfz9_2 := blk_frozen BK372.out 2
              have hfz9_3 := blk_frozen BK372.out 3
              have p373 : 0 ≤ (x6_1 : Int) := of_decide_eq_true (by first | (with_reducible assumption) | assumption)
              have q373 : x6_1 < (l0_3.length : Int) := of_decide_eq_true (by first | (with_reducible assumption) | assumption)
              obtain ⟨ad373, e373, hx373_0, hx373_1, hx373_2⟩ := at_T94 HR0_3.out x6_1 p373 q373
              cases e373
              replace hx373_0 := (HB.out.cell (World.block_lt_of_cell? w _ hx373_0)).trans hx373_0
              replace hx373_1 := (HB.out.cell (World.block_lt_of_cell? w _ hx373_1)).trans hx373_1
              replace hx373_2 := (HB.out.cell (World.block_lt_of_cell? w _ hx373_2)).trans hx373_2
              replace p373 := eq_true p373
              replace q373 := eq_true q373
              have p374 : 0 ≤ (x6_1 : Int) := of_decide_eq_true (by first | (with_reducible assumption) | assumption)
              have q374 : x6_1 < (l0_3.length : Int) := of_decide_eq_true (by first | (with_reducible assumption) | assumption)
              obtain ⟨ad374, e374, hx374_0, hx374_1, hx374_2⟩ := at_T94 HR0_3.out x6_1 p374 q374
              obtain rfl : ad373 = ad374 := (by injection e374)
              replace hx374_0 := (HB.out.cell (World.block_lt_of_cell? w _ hx374_0)).trans hx374_0
              replace hx374_1 := (HB.out.cell (World.block_lt_of_cell? w _ hx374_1)).trans hx374_1
              replace hx374_2 := (HB.out.cell (World.block_lt_of_cell? w _ hx374_2)).trans hx374_2
              replace p374 := eq_true p374
              replace q374 := eq_true q374
              go_wp2
              go_roundg k1
              case measure => have := HK1.out; omega
              case rel => exact ⟨(wrap64 (x6_1 + 1)), (by first | rfl | (simp; done) | (simp [*]; done)), H', ⟨by have := HK1.out; omega⟩, ⟨by (with_reducible repeat (first | refine blk_drewN ?_ _ | refine blk_drew ?_ | refine blk_alloc ?_ _)); exact BK372.out⟩, ⟨by repeat (first | (with_reducible first | exact HB.out | apply below_alloc | apply pw_below_drewN | apply below_drew1 | refine below_set ?_ GE372.out) | exact HB.out)⟩⟩
          · rw [if_neg c6] at H
            have c6b0 : decide (((rd_T94 l0_3 x6_1).f1) < a1) = false := decide_eq_false c6
            clear c6
            have H' := Aside0.mk H
            clear H
            have hcz10_0 : wr.cell? ⟨gb372, 0, none⟩ = some (.int .i64 a0_0) := (blk_cell BK372.out 0).trans rfl
            have hcz10_1 : wr.cell? ⟨gb372, 1, none⟩ = some (.int .i64 a0_1) := (blk_cell BK372.out 1).trans rfl
            have hcz10_2 : wr.cell? ⟨gb372, 2, none⟩ = some (.int .i64 a0_2) := (blk_cell BK372.out 2).trans rfl
            have hcz10_3 : wr.cell? ⟨gb372, 3, none⟩ = some (.slice A0_3 l0_3.length c0_3) := (blk_cell BK372.out 3).trans rfl
            have hfz10_0 := blk_frozen BK372.out 0
            have hfz10_1 := blk_frozen BK372.out 1
            have hfz10_2 := blk_frozen BK372.out 2
            have hfz10_3 := blk_frozen BK372.out 3
            have p373 : 0 ≤ (x6_1 : Int) := of_decide_eq_true (by first | (with_reducible assumption) | assumption)
            have q373 : x6_1 < (l0_3.length : Int) := of_decide_eq_true (by first | (with_reducible assumption) | assumption)
            obtain ⟨ad373, e373, hx373_0, hx373_1, hx373_2⟩ := at_T94 HR0_3.out x6_1 p373 q373
            cases e373
            replace hx373_0 := (HB.out.cell (World.block_lt_of_cell? w _ hx373_0)).trans hx373_0
            replace hx373_1 := (HB.out.cell (World.block_lt_of_cell? w _ hx373_1)).trans hx373_1
            replace hx373_2 := (HB.out.cell (World.block_lt_of_cell? w _ hx373_2)).trans hx373_2
            replace p373 := eq_true p373
            replace q373 := eq_true q373
            go_wp2
            go_roundg k1
            case measure => have := HK1.out; omega
            case rel => exact ⟨(wrap64 (x6_1 + 1)), (by first | rfl | (simp; done) | (simp [*]; done)), H', ⟨by have := HK1.out; omega⟩, ⟨by (with_reducible repeat (first | refine blk_drewN ?_ _ | refine blk_drew ?_ | refine blk_alloc ?_ _)); exact BK372.out⟩, ⟨by repeat (first | (with_reducible first | exact HB.out | apply below_alloc | apply pw_below_drewN | apply below_drew1 | refine below_set ?_ GE372.out) | exact HB.out)⟩⟩
        · rw [if_neg c5] at H
          exact absurd H (by simp)
      · rw [if_neg c4] at H
        have c4b0 : decide (x6_1 < (l0_3.length : Int)) = false := decide_eq_false c4
        clear c4
        simp only [Option.some.injEq, Prod.mk.injEq] at H
        obtain ⟨rfl, rfl⟩ := H
        have hcz11_0 : wr.cell? ⟨gb372, 0, none⟩ = some (.int .i64 a0_0) := (blk_cell BK372.out 0).trans rfl
        have hcz11_1 : wr.cell? ⟨gb372, 1, none⟩ = some (.int .i64 a0_1) := (blk_cell BK372.out 1).trans rfl
        have hcz11_2 : wr.cell? ⟨gb372, 2, none⟩ = some (.int .i64 a0_2) := (blk_cell BK372.out 2).trans rfl
        have hcz11_3 : wr.cell? ⟨gb372, 3, none⟩ = some (.slice A0_3 l0_3.length c0_3) := (blk_cell BK372.out 3).trans rfl
        have hfz11_0 := blk_frozen BK372.out 0
        have hfz11_1 := blk_frozen BK372.out 1
        have hfz11_2 := blk_frozen BK372.out 2
        have hfz11_3 := blk_frozen BK372.out 3
        go_wp2
        go_ret2
        exact ⟨by first | rfl | (simp [errW_none, errW_some] <;> rfl) | (simp [*, errW_none, errW_some] <;> rfl), by repeat (first | (with_reducible first | exact HB.out | apply below_alloc | apply pw_below_drewN | apply below_drew1 | refine below_set ?_ GE372.out) | exact HB.out)⟩

/-! ### ontimeref43_Active: function 43 -/
def ontimeref43_Active.f (k : Nat) (l0 : List (S93)) (a1 : Int) (a2 : Int) : Option (Int) := if 0 ≤ a1 then (if a1 < (l0.length : Int) then ((ontimeref43_Held.f k ((rd_T93 l0 a1).f0) ((rd_T93 l0 a1).f1) ((rd_T93 l0 a1).f2) ((rd_T93 l0 a1).f3) a2).bind fun bt377 => (if bt377.2 = true then ((ontimeref43_Ceiling.f k l0 bt377.1).bind fun t379 => (if t379 < a1 then (some t379) else (some a1))) else (some a1))) else (none)) else (none)
theorem ontimeref43_Active.mono : ∀ a0 a1 a2 k, LeO (ontimeref43_Active.f k a0 a1 a2) (ontimeref43_Active.f (k + 1) a0 a1 a2) := by
  intro a0 a1 a2 k
  unfold ontimeref43_Active.f
  repeat' first
      | (with_reducible exact ontimeref43_Ceiling.mono _ _ _)
      | (with_reducible exact ontimeref43_Held.mono _ _ _ _ _ _)
      | (with_reducible exact LeO.refl _)
      | (with_reducible exact LeO.none _)
      | (with_reducible refine LeO.ite ?_ ?_)
      | (with_reducible refine LeO.bind ?_ (fun _ => ?_))
      | exact ontimeref43_Ceiling.mono _ _ _
      | exact ontimeref43_Held.mono _ _ _ _ _ _
      | exact LeO.none _
      | refine LeO.ite ?_ ?_
      | refine LeO.bind ?_ (fun _ => ?_)
set_option maxHeartbeats 8000000 in
set_option maxRecDepth 100000 in
theorem ontimeref43_Active.calls (k : Nat) (A0 : Option Addr) (c0 : Nat) (l0 : List (S93)) (a1 : Int) (a2 : Int) (r : Int) (w : World) (hr0 : Kd.C k93 w A0 l0.length l0) (hc0 : l0.length ≤ c0) (h : ontimeref43_Active.f k l0 a1 a2 = some r) :
    Calls Try.prog 43 #[.slice A0 l0.length c0, .int .i64 a1, .int .i64 a2] w fun e w' => e = .returned (.int .i64 r) ∧ Below w.heap.size w w' := by
  have hu93 := Try.underlying93
  have HR0 := Aside0.mk hr0
  have HC0 := Aside0.mk hc0
  clear hr0 hc0
  have HB := Aside0.mk (Below.refl w.heap.size w)
  have H : (if 0 ≤ a1 then (if a1 < (l0.length : Int) then ((ontimeref43_Held.f k ((rd_T93 l0 a1).f0) ((rd_T93 l0 a1).f1) ((rd_T93 l0 a1).f2) ((rd_T93 l0 a1).f3) a2).bind fun bt377 => (if bt377.2 = true then ((ontimeref43_Ceiling.f k l0 bt377.1).bind fun t379 => (if t379 < a1 then (some t379) else (some a1))) else (some a1))) else (none)) else (none)) = some r := h
  clear h
  by_cases c4 : 0 ≤ a1
  · rw [if_pos c4] at H
    have c4b0 : decide (0 ≤ a1) = true := decide_eq_true c4
    clear c4
    by_cases c5 : a1 < (l0.length : Int)
    · rw [if_pos c5] at H
      have c5b0 : decide (a1 < (l0.length : Int)) = true := decide_eq_true c5
      clear c5
      replace H := Option.bind_eq_some_iff.mp H
      obtain ⟨⟨t377, t378⟩, A60, H⟩ := H
      replace H : (if t378 = true then ((ontimeref43_Ceiling.f k l0 t377).bind fun t379 => (if t379 < a1 then (some t379) else (some a1))) else (some a1)) = some r := H
      have A6 := Aside0.mk A60
      clear A60
      by_cases c7 : t378 = true
      · subst c7
        have H1 : ((ontimeref43_Ceiling.f k l0 t377).bind fun t379 => (if t379 < a1 then (some t379) else (some a1))) = some r := by rw [if_pos rfl] at H; exact H
        clear H
        have H := H1
        clear H1
        replace H := Option.bind_eq_some_iff.mp H
        obtain ⟨t379, A80, H⟩ := H
        replace H : (if t379 < a1 then (some t379) else (some a1)) = some r := H
        have A8 := Aside0.mk A80
        clear A80
        by_cases c9 : t379 < a1
        · rw [if_pos c9] at H
          have c9b0 : decide (t379 < a1) = true := decide_eq_true c9
          clear c9
          obtain rfl := Option.some.inj H
          have p376 : 0 ≤ (a1 : Int) := of_decide_eq_true (by first | (with_reducible assumption) | assumption)
          have q376 : a1 < (l0.length : Int) := of_decide_eq_true (by first | (with_reducible assumption) | assumption)
          obtain ⟨ad376, A376_3, c376_3, e376, hx376_0, hx376_1, hx376_2, hx376_3, hl376_3, hi376_3⟩ := at_T93 HR0.out a1 p376 q376
          cases e376
          have HR376_3 := Aside0.mk hi376_3
          have HC376_3 := Aside0.mk hl376_3
          clear hi376_3 hl376_3
          replace p376 := eq_true p376
          replace q376 := eq_true q376
          go_enter Try.func43, Try.ntmps43
          go_wp2_with (first | ((with_reducible refine gate_callee (f := 60) rfl ?_); refine goesL_ (some 16) rfl rfl Try.func60 (by kernel_rfl) rfl #[.agg #[.int .i64 ((rd_T93 l0 a1).f0), .int .i64 ((rd_T93 l0 a1).f1), .int .i64 ((rd_T93 l0 a1).f2), .slice A376_3 ((rd_T93 l0 a1).f3).length c376_3], .int .i64 a2] rfl (by (try simp only [List.map_toArray, List.map_cons, List.map_nil]); first | done | rfl | (simp only [List.length_drop, List.length_take]; rfl)) ?_; (with_reducible refine (ontimeref43_Held.calls k ((rd_T93 l0 a1).f0) ((rd_T93 l0 a1).f1) ((rd_T93 l0 a1).f2) _ _ ((rd_T93 l0 a1).f3) a2 t377 true _ ?side1 ?side2 A6.out).mono ?_); (case side1 => repeat (first | exact HR376_3.out | (with_reducible refine Kd.C_alloc ?_ _) | (with_reducible refine Kd.C_drewN ?_ _) | (with_reducible refine Kd.C_drew ?_))); (case side2 => exact HC376_3.out); rintro e w10 ⟨rfl, hb⟩; refine ⟨_, rfl, ?_⟩; have n0_ := Aside0.mk (below_step (by repeat (first | (with_reducible first | exact HB.out | apply below_alloc | apply pw_below_drewN | apply below_drew1) | exact HB.out)) hb); clear HB; have HB := n0_; clear n0_; (try clear hb); (try clear hb2); (try clear hk); (try clear hi)) | ((with_reducible refine gate_callee (f := 42) rfl ?_); refine goesL_ (some 22) rfl rfl Try.func42 (by kernel_rfl) rfl #[.slice (some ad376) l0.length c0, .int .i64 t377] rfl (by (try simp only [List.map_toArray, List.map_cons, List.map_nil]); first | done | rfl | (simp only [List.length_drop, List.length_take]; rfl)) ?_; (with_reducible refine (ontimeref43_Ceiling.calls k _ _ l0 t377 t379 _ ?side1 ?side2 A8.out).mono ?_); (case side1 => repeat (first | exact (Kd.C_below HR0.out HB.out) | (with_reducible refine Kd.C_alloc ?_ _) | (with_reducible refine Kd.C_drewN ?_ _) | (with_reducible refine Kd.C_drew ?_))); (case side2 => exact HC0.out); rintro e w' ⟨rfl, ⟨nd, rfl⟩⟩; refine ⟨_, rfl, ?_⟩))
          go_ret
          exact ⟨by first | rfl | (simp [errW_none, errW_some] <;> rfl) | (simp [*, errW_none, errW_some] <;> rfl), by repeat (first | (with_reducible first | exact HB.out | apply below_alloc | apply pw_below_drewN | apply below_drew1) | exact HB.out)⟩
        · rw [if_neg c9] at H
          have c9b0 : decide (t379 < a1) = false := decide_eq_false c9
          clear c9
          obtain rfl := Option.some.inj H
          have p376 : 0 ≤ (a1 : Int) := of_decide_eq_true (by first | (with_reducible assumption) | assumption)
          have q376 : a1 < (l0.length : Int) := of_decide_eq_true (by first | (with_reducible assumption) | assumption)
          obtain ⟨ad376, A376_3, c376_3, e376, hx376_0, hx376_1, hx376_2, hx376_3, hl376_3, hi376_3⟩ := at_T93 HR0.out a1 p376 q376
          cases e376
          have HR376_3 := Aside0.mk hi376_3
          have HC376_3 := Aside0.mk hl376_3
          clear hi376_3 hl376_3
          replace p376 := eq_true p376
          replace q376 := eq_true q376
          go_enter Try.func43, Try.ntmps43
          go_wp2_with (first | ((with_reducible refine gate_callee (f := 60) rfl ?_); refine goesL_ (some 16) rfl rfl Try.func60 (by kernel_rfl) rfl #[.agg #[.int .i64 ((rd_T93 l0 a1).f0), .int .i64 ((rd_T93 l0 a1).f1), .int .i64 ((rd_T93 l0 a1).f2), .slice A376_3 ((rd_T93 l0 a1).f3).length c376_3], .int .i64 a2] rfl (by (try simp only [List.map_toArray, List.map_cons, List.map_nil]); first | done | rfl | (simp only [List.length_drop, List.length_take]; rfl)) ?_; (with_reducible refine (ontimeref43_Held.calls k ((rd_T93 l0 a1).f0) ((rd_T93 l0 a1).f1) ((rd_T93 l0 a1).f2) _ _ ((rd_T93 l0 a1).f3) a2 t377 true _ ?side1 ?side2 A6.out).mono ?_); (case side1 => repeat (first | exact HR376_3.out | (with_reducible refine Kd.C_alloc ?_ _) | (with_reducible refine Kd.C_drewN ?_ _) | (with_reducible refine Kd.C_drew ?_))); (case side2 => exact HC376_3.out); rintro e w11 ⟨rfl, hb⟩; refine ⟨_, rfl, ?_⟩; have n0_ := Aside0.mk (below_step (by repeat (first | (with_reducible first | exact HB.out | apply below_alloc | apply pw_below_drewN | apply below_drew1) | exact HB.out)) hb); clear HB; have HB := n0_; clear n0_; (try clear hb); (try clear hb2); (try clear hk); (try clear hi)) | ((with_reducible refine gate_callee (f := 42) rfl ?_); refine goesL_ (some 22) rfl rfl Try.func42 (by kernel_rfl) rfl #[.slice (some ad376) l0.length c0, .int .i64 t377] rfl (by (try simp only [List.map_toArray, List.map_cons, List.map_nil]); first | done | rfl | (simp only [List.length_drop, List.length_take]; rfl)) ?_; (with_reducible refine (ontimeref43_Ceiling.calls k _ _ l0 t377 t379 _ ?side1 ?side2 A8.out).mono ?_); (case side1 => repeat (first | exact (Kd.C_below HR0.out HB.out) | (with_reducible refine Kd.C_alloc ?_ _) | (with_reducible refine Kd.C_drewN ?_ _) | (with_reducible refine Kd.C_drew ?_))); (case side2 => exact HC0.out); rintro e w' ⟨rfl, ⟨nd, rfl⟩⟩; refine ⟨_, rfl, ?_⟩))
          go_ret
          exact ⟨by first | rfl | (simp [errW_none, errW_some] <;> rfl) | (simp [*, errW_none, errW_some] <;> rfl), by repeat (first | (with_reducible first | exact HB.out | apply below_alloc | apply pw_below_drewN | apply below_drew1) | exact HB.out)⟩
      · replace c7 := Bool.eq_false_iff.mpr c7
        subst c7
        have H1 : (some a1) = some r := by rw [if_neg (show ¬ (false = true) by decide)] at H; exact H
        clear H
        have H := H1
        clear H1
        obtain rfl := Option.some.inj H
        have p376 : 0 ≤ (a1 : Int) := of_decide_eq_true (by first | (with_reducible assumption) | assumption)
        have q376 : a1 < (l0.length : Int) := of_decide_eq_true (by first | (with_reducible assumption) | assumption)
        obtain ⟨ad376, A376_3, c376_3, e376, hx376_0, hx376_1, hx376_2, hx376_3, hl376_3, hi376_3⟩ := at_T93 HR0.out a1 p376 q376
        cases e376
        have HR376_3 := Aside0.mk hi376_3
        have HC376_3 := Aside0.mk hl376_3
        clear hi376_3 hl376_3
        replace p376 := eq_true p376
        replace q376 := eq_true q376
        go_enter Try.func43, Try.ntmps43
        go_wp2_with (first | ((with_reducible refine gate_callee (f := 60) rfl ?_); refine goesL_ (some 16) rfl rfl Try.func60 (by kernel_rfl) rfl #[.agg #[.int .i64 ((rd_T93 l0 a1).f0), .int .i64 ((rd_T93 l0 a1).f1), .int .i64 ((rd_T93 l0 a1).f2), .slice A376_3 ((rd_T93 l0 a1).f3).length c376_3], .int .i64 a2] rfl (by (try simp only [List.map_toArray, List.map_cons, List.map_nil]); first | done | rfl | (simp only [List.length_drop, List.length_take]; rfl)) ?_; (with_reducible refine (ontimeref43_Held.calls k ((rd_T93 l0 a1).f0) ((rd_T93 l0 a1).f1) ((rd_T93 l0 a1).f2) _ _ ((rd_T93 l0 a1).f3) a2 t377 false _ ?side1 ?side2 A6.out).mono ?_); (case side1 => repeat (first | exact HR376_3.out | (with_reducible refine Kd.C_alloc ?_ _) | (with_reducible refine Kd.C_drewN ?_ _) | (with_reducible refine Kd.C_drew ?_))); (case side2 => exact HC376_3.out); rintro e w12 ⟨rfl, hb⟩; refine ⟨_, rfl, ?_⟩; have n0_ := Aside0.mk (below_step (by repeat (first | (with_reducible first | exact HB.out | apply below_alloc | apply pw_below_drewN | apply below_drew1) | exact HB.out)) hb); clear HB; have HB := n0_; clear n0_; (try clear hb); (try clear hb2); (try clear hk); (try clear hi)))
        go_ret
        exact ⟨by first | rfl | (simp [errW_none, errW_some] <;> rfl) | (simp [*, errW_none, errW_some] <;> rfl), by repeat (first | (with_reducible first | exact HB.out | apply below_alloc | apply pw_below_drewN | apply below_drew1) | exact HB.out)⟩
    · rw [if_neg c5] at H
      exact absurd H (by simp)
  · rw [if_neg c4] at H
    exact absurd H (by simp)

end Go.Proofs.Ytcmifojplgmgkaa.P
