-- written by wip/drive.py (a driver of this session's own over the kit's print.py)
import Derived.Test.YtcmifojplgmgkaaP0
import Derived.Test.YtcmifojplgmgkaaP5
import Derived.Test.YtcmifojplgmgkaaP16
import Derived.Test.YtcmifojplgmgkaaP29
import Derived.Test.YtcmifojplgmgkaaP31
import Derived.Test.YtcmifojplgmgkaaP33
namespace Go.Proofs.Ytcmifojplgmgkaa.P
open Go.RowKit Go.Proofs.YtcmifojplgmgkaaW.PrintWords Go.Proofs.YtcmifojplgmgkaaW.PrintLast Go.Proofs.YtcmifojplgmgkaaW.PrintMore
attribute [local go_sem] max2_int min2_int max_two min_two max_three min_three max_four min_four   -- for this text's walks alone
set_option linter.unusedVariables false
set_option linter.unusedSimpArgs false

-- PLUG
/-! ### ontimelaw43_CeilingSimulates (function 11): by hand: one way -/
/-- The two rows of finished jobs are the same. -/
def simsOk (xs : List S34) (ys : List S64) : Bool := decide (xs.length = ys.length ∧ ys.length ≤ 100000) && (List.range ys.length).all fun i => decide ((rd_T64 ys (i : Int)).f0 = (rd_T34 xs (i : Int)).f0 ∧ (rd_T64 ys (i : Int)).f1 = (rd_T34 xs (i : Int)).f1 ∧ (rd_T64 ys (i : Int)).f2 = (rd_T34 xs (i : Int)).f2 ∧ (rd_T64 ys (i : Int)).f3 = (rd_T34 xs (i : Int)).f3 ∧ (rd_T64 ys (i : Int)).f4 = (rd_T34 xs (i : Int)).f4)
def ontimelaw43_CeilingSimulates.f (k : Nat) (l0 : List S49) (l1 : List (List Int)) (a2 : Int) : Option Bool :=
  (ontimelaw43_awake.f k).bind fun t => if t = true then ((ontimelaw43_fits.f k l0 l1 a2).bind fun g => if g = true then ((ceiling_Simulate.f k l0 l1 a2).bind fun r => (ontimelaw43_plain.f k l0).bind fun M => (ontimeref43_Simulate.f k M l1 a2).bind fun q => if r.2 = 0 then (if simsOk r.1 q.1 = true then some true else none) else none) else some true) else none
theorem eq34_same (w : World) (x0 x1 x2 x3 x4 : Int) :
    (Op.equalIn 10000 34 (.agg #[.int .i64 x0, .int .i64 x1, .int .i64 x2, .int .i64 x3, .int .i64 x4]) (.agg #[.int .i64 x0, .int .i64 x1, .int .i64 x2, .int .i64 x3, .int .i64 x4])).run Try.prog w = .ok true w := by
  have h : (Op.equalIn (9999 + 1) 34 (.agg #[.int .i64 x0, .int .i64 x1, .int .i64 x2, .int .i64 x3, .int .i64 x4]) (.agg #[.int .i64 x0, .int .i64 x1, .int .i64 x2, .int .i64 x3, .int .i64 x4])).run Try.prog w = .ok (x0 == x0 && (x1 == x1 && (x2 == x2 && (x3 == x3 && (x4 == x4))))) w := by
    refine eqA_of Try.underlying34 (by kernel_rfl) ?_
    refine eqf_cons (by rfl) (by go_simp; rfl) (by go_simp; rfl) (by go_simp) ?_
    refine eqf_cons (by rfl) (by go_simp; rfl) (by go_simp; rfl) (by go_simp) ?_
    refine eqf_cons (by rfl) (by go_simp; rfl) (by go_simp; rfl) (by go_simp) ?_
    refine eqf_cons (by rfl) (by go_simp; rfl) (by go_simp; rfl) (by go_simp) ?_
    exact eqf_last (by rfl) (by go_simp; rfl) (by go_simp; rfl) (by go_simp)
  rw [show 10000 = 9999 + 1 from rfl, h]
  simp
attribute [local go_sem] eq34_same
set_option maxHeartbeats 8000000 in
set_option maxRecDepth 100000 in
theorem ontimelaw43_CeilingSimulates.calls (k : Nat) (A0 : Option Addr) (c0 : Nat) (l0 : List (S49)) (A1 : Option Addr) (c1 : Nat) (l1 : List (List Int)) (a2 : Int) (r : Bool) (w : World) (hr0 : Kd.C k49 w A0 l0.length l0) (hc0 : l0.length ≤ c0)
    (hr1 : Kd.C (Kd.slice 3 (Kd.int .i64)) w A1 l1.length l1) (hc1 : l1.length ≤ c1) (h : ontimelaw43_CeilingSimulates.f k l0 l1 a2 = some r) :
    Calls Try.prog 11 #[.slice A0 l0.length c0, .slice A1 l1.length c1, .int .i64 a2] w fun e w' => e = .returned (.bool r) ∧ Below w.heap.size w w' := by
  have hu34 := Try.underlying34
  have hu64 := Try.underlying64
  have hu26 := Try.underlying26
  have hu61 := Try.underlying61
  have HR := Aside0.mk hr0
  have HS := Aside0.mk hr1
  have HC0 := Aside0.mk hc0
  have HC1 := Aside0.mk hc1
  clear hr0 hr1 hc0 hc1
  unfold ontimelaw43_CeilingSimulates.f at h
  obtain ⟨t, h1, h⟩ := Option.bind_eq_some_iff.mp h
  cases t with
  | false => rw [if_neg (by simp)] at h; cases h
  | true =>
  rw [if_pos rfl] at h
  have A1 := Aside0.mk h1
  clear h1
  obtain ⟨g, h1, h⟩ := Option.bind_eq_some_iff.mp h
  have A2 := Aside0.mk h1
  clear h1
  cases g with
  | false =>
    rw [if_neg (by simp)] at h
    obtain rfl := Option.some.inj h
    clear h
    go_enter Try.func11, Try.ntmps11
    go_wp2_with fail
    refine (ontimelaw43_awake.calls k true w A1.out).mono ?_
    rintro e w1 ⟨rfl, hb1⟩
    have HB1 := Aside0.mk hb1
    clear hb1
    go_wp2_with fail
    refine (ontimelaw43_fits.calls k _ _ l0 _ _ l1 a2 false w1 (Kd.C_below HR.out HB1.out) HC0.out (Kd.C_below HS.out HB1.out) HC1.out A2.out).mono ?_
    rintro e w2 ⟨rfl, hb2⟩
    have HB2 := Aside0.mk (below_step HB1.out hb2)
    clear hb2
    go_wp2_with fail
    refine (ontimelaw43_awake.calls k true w2 A1.out).mono ?_
    rintro e w3 ⟨rfl, hb3⟩
    have HB3 := Aside0.mk (below_step HB2.out hb3)
    clear hb3
    go_wp2
    go_ret
    exact ⟨rfl, HB3.out⟩
  | true =>
  rw [if_pos rfl] at h
  obtain ⟨⟨jobs, e0⟩, h1, h⟩ := Option.bind_eq_some_iff.mp h
  have A3 := Aside0.mk h1
  clear h1
  obtain ⟨M, h1, h⟩ := Option.bind_eq_some_iff.mp h
  have A4 := Aside0.mk h1
  clear h1
  obtain ⟨⟨want, run⟩, h1, h⟩ := Option.bind_eq_some_iff.mp h
  have A5 := Aside0.mk h1
  clear h1
  dsimp only at h
  by_cases he0 : e0 = 0
  case neg => rw [if_neg he0] at h; cases h
  rw [if_pos he0] at h
  by_cases hok : simsOk jobs want = true
  case neg => rw [if_neg hok] at h; cases h
  rw [if_pos hok] at h
  obtain rfl := Option.some.inj h
  clear h
  subst he0
  unfold simsOk at hok
  rw [Bool.and_eq_true] at hok
  obtain ⟨h2, hgo⟩ := hok
  obtain ⟨hjw, hwl⟩ := of_decide_eq_true h2
  have HGO : Aside0 (∀ i : Nat, i < want.length → _) := ⟨fun i hi => of_decide_eq_true (List.all_eq_true.1 hgo i (List.mem_range.2 hi))⟩
  have HJW := Aside0.mk hjw
  clear h2 hgo hjw
  go_enter Try.func11, Try.ntmps11
  go_wp2_with fail
  refine (ontimelaw43_awake.calls k true w A1.out).mono ?_
  rintro e w1 ⟨rfl, hb1⟩
  have HB1 := Aside0.mk hb1
  clear hb1
  go_wp2_with fail
  refine (ontimelaw43_fits.calls k _ _ l0 _ _ l1 a2 true w1 (Kd.C_below HR.out HB1.out) HC0.out (Kd.C_below HS.out HB1.out) HC1.out A2.out).mono ?_
  rintro e w2 ⟨rfl, hb2⟩
  have HB2 := Aside0.mk (below_step HB1.out hb2)
  clear hb2
  go_wp2_with fail
  refine (ceiling_Simulate.calls k _ _ l0 _ _ l1 a2 jobs 0 w2 (Kd.C_below HR.out HB2.out) HC0.out (Kd.C_below HS.out HB2.out) HC1.out A3.out).mono ?_
  rintro e w3 ⟨vj, rfl, hj, hb3⟩
  have HB3 := Aside0.mk (below_step HB2.out hb3)
  obtain ⟨A7, c7, rfl, hc7, hj7⟩ := Kd.R_reads hj
  have HJ3 := Aside0.mk hj7
  clear hb3 hj hj7
  go_wp2_with fail
  refine (ontimelaw43_plain.calls k A0 c0 l0 M w3 (Kd.C_below HR.out HB3.out) HC0.out A4.out).mono ?_
  rintro e w4 ⟨vm, rfl, hm, hb4⟩
  obtain ⟨Am, cm, rfl, hcm, hcM⟩ := Kd.S_reads hm
  have HM := Aside0.mk hcM
  have HCM := Aside0.mk hcm
  have HJ4 := Aside0.mk (Kd.C_below HJ3.out hb4)
  have HB4 := Aside0.mk (below_step HB3.out hb4)
  clear hb4 hm hcM hcm HJ3
  go_wp2_with fail
  refine (ontimeref43_Simulate.calls k Am cm M _ c1 l1 a2 want run w4 HM.out HCM.out (Kd.C_below HS.out HB4.out) HC1.out A5.out).mono ?_
  rintro e w5 ⟨vq, vr, rfl, hq, _, hb5⟩
  obtain ⟨A9, c9, rfl, hc9, hq9⟩ := Kd.R_reads hq
  have HQ5 := Aside0.mk hq9
  have HJ5 := Aside0.mk (Kd.C_below HJ4.out hb5)
  have HB5 := Aside0.mk (below_step HB4.out hb5)
  clear hb5 hq hq9 HJ4 HM
  have hneq : ((jobs.length : Int) != (want.length : Int)) = false := by rw [HJW.out]; simp
  obtain ⟨wo, rfl⟩ : ∃ wo : World, wo = w5 := ⟨_, rfl⟩
  go_wp2_with fail
  go_loopw [49] (fun v49 wr => ∃ (i : Int), v49 = .int .i64 i ∧ 0 ≤ i ∧ i ≤ want.length ∧ Aside0 (Below wo.heap.size wo wr)) (fun v _ => want.length - (intOf v).toNat)
  case atStart => exact ⟨0, rfl, by omega, by omega, ⟨Below.refl _ _⟩⟩
  case round =>
    obtain ⟨i, rfl, i0, i1, HI⟩ := hrel
    by_cases hi : i < want.length
    · have hiq := hi
      obtain ⟨ad, hA, x0, x1, x2, x3, x4⟩ := at_T64 (Kd.C_below HQ5.out HI.out) i i0 hi
      subst hA
      have hij : i < (jobs.length : Int) := by rw [HJW.out]; exact hi
      obtain ⟨ad2, hA, y0, y1, y2, y3, y4⟩ := at_T34 (Kd.C_below HJ5.out HI.out) i i0 hij
      subst hA
      have hg := HGO.out i.toNat (by omega)
      rw [Int.toNat_of_nonneg i0] at hg
      obtain ⟨g0, g1, g2, g3, g4⟩ := hg
      rw [g0] at x0
      rw [g1] at x1
      rw [g2] at x2
      rw [g3] at x3
      rw [g4] at x4
      clear g0 g1 g2 g3 g4 hiq
      generalize rd_T34 jobs i = j at x0 x1 x2 x3 x4 y0 y1 y2 y3 y4
      go_wp2_with fail
      obtain ⟨W1, hW1⟩ : ∃ W1, W1 = wr.alloc (.cells #[.int .i64 j.f0, .int .i64 j.f1, .int .i64 j.f2, .int .i64 j.f3, .int .i64 j.f4] 64) := ⟨_, rfl⟩
      have B0 : W1.cell? ⟨wr.heap.size, 0, none⟩ = some (.int .i64 j.f0) := by rw [hW1]; exact World.cell?_alloc_new _ _ _ 0
      have B1 : W1.cell? ⟨wr.heap.size, 1, none⟩ = some (.int .i64 j.f1) := by rw [hW1]; exact World.cell?_alloc_new _ _ _ 1
      have B2 : W1.cell? ⟨wr.heap.size, 2, none⟩ = some (.int .i64 j.f2) := by rw [hW1]; exact World.cell?_alloc_new _ _ _ 2
      have B3 : W1.cell? ⟨wr.heap.size, 3, none⟩ = some (.int .i64 j.f3) := by rw [hW1]; exact World.cell?_alloc_new _ _ _ 3
      have B4 : W1.cell? ⟨wr.heap.size, 4, none⟩ = some (.int .i64 j.f4) := by rw [hW1]; exact World.cell?_alloc_new _ _ _ 4
      have lift : ∀ p v, wr.cell? p = some v → W1.cell? p = some v := fun p v h => by rw [hW1]; exact cell_new_ _ h
      replace y0 := lift _ _ y0
      replace y1 := lift _ _ y1
      replace y2 := lift _ _ y2
      replace y3 := lift _ _ y3
      replace y4 := lift _ _ y4
      clear lift
      have HW1 := Aside0.mk (show Below wo.heap.size wo W1 by rw [hW1]; exact HI.out.alloc HI.out.size _)
      rw [← hW1]
      generalize wr.heap.size = bj at B0 B1 B2 B3 B4 ⊢
      clear hW1 x0 x1 x2 x3 x4
      go_quiet (fail)
      go_wp2_with fail
      exact ⟨⟨i + 1, rfl, by omega, by omega, ⟨pw_below_drewN HW1.out _⟩⟩, by simp [intOf]; omega⟩
    · obtain rfl : i = want.length := by omega
      go_wp2
      go_ret
      exact ⟨rfl, below_step HB5.out HI.out⟩

end Go.Proofs.Ytcmifojplgmgkaa.P
