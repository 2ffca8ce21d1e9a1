-- written by wip/drive.py (a driver of this session's own over the kit's print.py)
import Derived.Maps.OwnOps
import Derived.Maps.Views
import Derived.Test.YtcmifojplgmgkaaP0
import Derived.Test.YtcmifojplgmgkaaP3
import Derived.Test.YtcmifojplgmgkaaP5
import Derived.Test.YtcmifojplgmgkaaP7
import Derived.Test.YtcmifojplgmgkaaP11
import Derived.Test.YtcmifojplgmgkaaP12
namespace Go.Proofs.Ytcmifojplgmgkaa.P
open Go.RowKit Go.Proofs.YtcmifojplgmgkaaW.PrintWords Go.Proofs.YtcmifojplgmgkaaW.PrintLast Go.Proofs.YtcmifojplgmgkaaW.PrintMore
attribute [local go_sem] max2_int min2_int max_two min_two max_three min_three max_four min_four   -- for this text's walks alone
set_option linter.unusedVariables false
set_option linter.unusedSimpArgs false

-- PLUG
/-! ### ceiling_Active (function 41): by hand: it looks into the map of ceilings -/
/-- The active priority of a job. -/
def activeV (l : List S49) (t d : Int) : Int := (rankV l t d).1
def ceiling_Active.f (k : Nat) (l0 : List (S49)) (a1 : Int) (a2 : Int) : Option (Int) := (ceiling_Valid.f k l0).bind fun v => if v = true then (if 0 ≤ a1 then if a1 < (l0.length : Int) then if 0 ≤ a2 then if a2 ≤ (rd_T49 l0 a1).f0 then some (activeV l0 a1 a2) else some (-1) else some (-1) else some (-1) else some (-1)) else some (-1)
theorem ceiling_Active.mono : ∀ a0 a1 a2 k, LeO (ceiling_Active.f k a0 a1 a2) (ceiling_Active.f (k + 1) a0 a1 a2) := by
  intro a0 a1 a2 k
  unfold ceiling_Active.f
  exact LeO.bind (ceiling_Valid.mono _ _) (fun _ => LeO.refl _)
theorem ceil_some (A : Option Addr) (c : Nat) (l : List S49) (w : World) (hr : Kd.C k49 w A l.length l) (hcap : l.length ≤ c) (hv : vld l = true) :
    Calls Try.prog 36 #[.slice A l.length c] w fun e w' => ∃ mb, e = .returned (.map (some mb)) ∧ w'.ownsMap Try.prog 3 (plainElem (H := Unit) Try.prog 3) mb (8 * l.length) (ceilL l l.length) ∧ Below w.heap.size w w' :=
  (ceil_yes A c l w hr hcap hv).mono fun e w' h => ⟨_, h.1, h.2.1, h.2.2⟩
set_option maxHeartbeats 8000000 in
set_option maxRecDepth 100000 in
theorem ceiling_Active.calls (k : Nat) (A0 : Option Addr) (c0 : Nat) (l0 : List (S49)) (a1 : Int) (a2 : Int) (r : Int) (w : World) (hr0 : Kd.C k49 w A0 l0.length l0) (hc0 : l0.length ≤ c0) (h : ceiling_Active.f k l0 a1 a2 = some r) :
    Calls Try.prog 41 #[.slice A0 l0.length c0, .int .i64 a1, .int .i64 a2] w fun e w' => e = .returned (.int .i64 r) ∧ Below w.heap.size w w' := by
  have hu49 := Try.underlying49
  have hu68 := Try.underlying68
  have hu22 := Try.underlying22
  have HR := Aside0.mk hr0
  have HCAP := Aside0.mk hc0
  clear hr0 hc0
  unfold ceiling_Active.f at h
  obtain ⟨v, h1, h⟩ := Option.bind_eq_some_iff.mp h
  have A1 := Aside0.mk h1
  have hv1 := cvalid_of h1
  clear h1
  cases v with
  | false =>
    rw [if_neg (by simp)] at h
    obtain rfl := Option.some.inj h
    clear h hv1
    go_enter Try.func41, Try.ntmps41
    go_wp2_with fail
    refine (ceiling_Valid.calls k A0 c0 l0 false w HR.out HCAP.out A1.out).mono ?_
    rintro e w1 ⟨rfl, hb1⟩
    have HB := Aside0.mk hb1
    clear hb1
    go_wp2
    go_ret
    exact ⟨rfl, HB.out⟩
  | true =>
    rw [if_pos rfl] at h
    by_cases q1 : 0 ≤ a1
    case neg =>
      rw [if_neg q1] at h
      obtain rfl := Option.some.inj h
      clear h hv1
      go_enter Try.func41, Try.ntmps41
      go_wp2_with fail
      refine (ceiling_Valid.calls k A0 c0 l0 true w HR.out HCAP.out A1.out).mono ?_
      rintro e w1 ⟨rfl, hb1⟩
      have HB := Aside0.mk hb1
      clear hb1
      go_wp2
      go_ret
      exact ⟨rfl, HB.out⟩
    rw [if_pos q1] at h
    by_cases q2 : a1 < (l0.length : Int)
    case neg =>
      rw [if_neg q2] at h
      obtain rfl := Option.some.inj h
      clear h hv1
      go_enter Try.func41, Try.ntmps41
      go_wp2_with fail
      refine (ceiling_Valid.calls k A0 c0 l0 true w HR.out HCAP.out A1.out).mono ?_
      rintro e w1 ⟨rfl, hb1⟩
      have HB := Aside0.mk hb1
      clear hb1
      go_wp2
      go_ret
      exact ⟨rfl, HB.out⟩
    rw [if_pos q2] at h
    by_cases q3 : 0 ≤ a2
    case neg =>
      rw [if_neg q3] at h
      obtain rfl := Option.some.inj h
      clear h hv1
      go_enter Try.func41, Try.ntmps41
      go_wp2_with fail
      refine (ceiling_Valid.calls k A0 c0 l0 true w HR.out HCAP.out A1.out).mono ?_
      rintro e w1 ⟨rfl, hb1⟩
      have HB := Aside0.mk hb1
      clear hb1
      go_wp2
      go_ret
      exact ⟨rfl, HB.out⟩
    rw [if_pos q3] at h
    obtain ⟨ad, A3, c3, hA, x0, x1, x2, x3, x4, x5⟩ := at_T49 HR.out a1 q1 q2
    subst hA
    have X4 := Aside0.mk x4
    have X5 := Aside0.mk x5
    clear x4 x5
    by_cases q4 : a2 ≤ (rd_T49 l0 a1).f0
    case neg =>
      rw [if_neg q4] at h
      obtain rfl := Option.some.inj h
      clear h hv1
      go_enter Try.func41, Try.ntmps41
      go_wp2_with (go_at_call 20; refine (ceiling_Valid.calls k (some ad) c0 l0 true w HR.out HCAP.out A1.out).mono ?_; rintro e w1 ⟨rfl, hb1⟩; have HB := Aside0.mk hb1; have y0 := pw_cell_below hb1 x0; clear hb1)
      go_ret
      exact ⟨rfl, HB.out⟩
    rw [if_pos q4] at h
    obtain rfl := Option.some.inj h
    clear h
    have HV := Aside0.mk hv1
    have h8 : (rd_T49 l0 a1).f3.length ≤ 8 := (vldT_of ((vld_of HV.out).2 _ (rd49_mem q1 q2))).2.2.2.2.2.2.1
    have hh := holds_eq (Nat.le_refl 9) (rd_T49 l0 a1).f0 (rd_T49 l0 a1).f1 (rd_T49 l0 a1).f2 a2 h8
    clear hv1
    cases hs : inSec (rd_T49 l0 a1).f3 a2 with
    | none =>
      rw [hs] at hh
      have HH := Aside0.mk (show ceiling_Task_holds.f 9 _ _ _ _ _ = some (0, 0, 0, false) from hh)
      have hrk : activeV l0 a1 a2 = a1 := by unfold activeV rankV; rw [hs]
      rw [hrk]
      clear hh hs hrk
      go_enter Try.func41, Try.ntmps41
      go_wp2_with (first
        | (go_at_call 20; refine (ceiling_Valid.calls k (some ad) c0 l0 true w HR.out HCAP.out A1.out).mono ?_; rintro e w1 ⟨rfl, hb1⟩; have HB := Aside0.mk hb1; have y0 := pw_cell_below hb1 x0; have y1 := pw_cell_below hb1 x1; have y2 := pw_cell_below hb1 x2; have y3 := pw_cell_below hb1 x3; clear hb1 x0 x1 x2 x3)
        | (go_at_call 59; refine (ceiling_Task_holds.calls 9 _ _ _ A3 c3 (rd_T49 l0 a1).f3 a2 _ _ _ _ w1 (Kd.C_below X5.out HB.out) X4.out HH.out).mono ?_; rintro e' w2 ⟨rfl, hb2⟩; have HB2 := Aside0.mk (below_step HB.out hb2); clear hb2))
      go_ret
      exact ⟨rfl, below_alloc HB2.out _⟩
    | some s =>
      rw [hs] at hh
      have HH := Aside0.mk (show ceiling_Task_holds.f 9 _ _ _ _ _ = some (s.f0, s.f1, s.f2, true) from hh)
      have hrk : activeV l0 a1 a2 = mn a1 (ceilF l0 s.f0) := by unfold activeV rankV; rw [hs]
      rw [hrk]
      obtain ⟨_, _, _, _, _, _, _, v8⟩ := vldT_of ((vld_of HV.out).2 _ (rd49_mem q1 q2))
      obtain ⟨_, _, _, o0, o1⟩ := secB_bd (Int.le_refl 0) v8 s (List.mem_of_find?_eq_some hs)
      clear hh hs hrk v8
      go_enter Try.func41, Try.ntmps41
      go_wp2_with (first
        | (go_at_call 20; refine (ceiling_Valid.calls k (some ad) c0 l0 true w HR.out HCAP.out A1.out).mono ?_; rintro e w1 ⟨rfl, hb1⟩; have HB := Aside0.mk hb1; have y0 := pw_cell_below hb1 x0; have y1 := pw_cell_below hb1 x1; have y2 := pw_cell_below hb1 x2; have y3 := pw_cell_below hb1 x3; clear hb1 x0 x1 x2 x3)
        | (go_at_call 59; refine (ceiling_Task_holds.calls 9 _ _ _ A3 c3 (rd_T49 l0 a1).f3 a2 _ _ _ _ w1 (Kd.C_below X5.out HB.out) X4.out HH.out).mono ?_; rintro e' w2 ⟨rfl, hb2⟩; have HB2 := Aside0.mk (below_step HB.out hb2); clear hb2)
        | fail)
      have hB0 : (w2.alloc (.cells #[.int .i64 s.f0, .int .i64 s.f1, .int .i64 s.f2] 68)).cell? ⟨w2.heap.size, 0, none⟩ = some (.int .i64 s.f0) := World.cell?_alloc_new _ _ _ 0
      by_cases hct : ceilF l0 s.f0 < a1
      all_goals
        go_region_held3 (fun w' => w'.cell? ⟨w2.heap.size, 0, none⟩ = some (.int .i64 s.f0) ∧ Below w.heap.size w w')
          (first | exact ⟨hB0, below_drew (below_alloc HB2.out _)⟩ | assumption | (have hb := ‹Below _ _ _›; obtain ⟨s0, s1⟩ := ‹_ ∧ Below w.heap.size w _›; exact ⟨pw_cell_below hb3 s0, below_step s1 hb3⟩))
          (first | (go_at_call 36; refine (ceil_some (some ad) c0 l0 _ (Kd.C_below HR.out (‹_ ∧ Below w.heap.size w _›).2) HCAP.out HV.out).mono ?_; rintro e' w3 ⟨mb, rfl, hown, hb3⟩; have E := look_ceil hown o0 o1; clear hown))
        all_goals
          have hS := ‹_ ∧ Below w.heap.size w _›
          go_wp2
          go_ret
          refine ⟨?_, hS.2⟩
          unfold mn
          first | (rw [if_pos hct]; rfl) | (rw [if_neg (show ¬ (ceilF l0 s.f0 < a1) by omega)]; rfl)

end Go.Proofs.Ytcmifojplgmgkaa.P
