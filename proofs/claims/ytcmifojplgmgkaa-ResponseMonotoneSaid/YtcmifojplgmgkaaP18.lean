-- written by wip/drive.py (a driver of this session's own over the kit's print.py)
import Derived.Test.YtcmifojplgmgkaaP0
import Derived.Test.YtcmifojplgmgkaaP3
import Derived.Test.YtcmifojplgmgkaaP8
import Derived.Test.YtcmifojplgmgkaaP10
namespace Go.Proofs.Ytcmifojplgmgkaa.P
open Go.RowKit Go.Proofs.YtcmifojplgmgkaaW.PrintWords Go.Proofs.YtcmifojplgmgkaaW.PrintLast Go.Proofs.YtcmifojplgmgkaaW.PrintMore
attribute [local go_sem] max2_int min2_int max_two min_two max_three min_three max_four min_four   -- for this text's walks alone
set_option linter.unusedVariables false
set_option linter.unusedSimpArgs false

-- PLUG
/-! ### ontimelaw44_ResponseMonotone (function 7): by hand: it copies rows of elements that lead to rows -/
/-- Elements whose cells lead to what an older world held. -/
def kSh (w0 : World) : Kd S49 where
  sz := 4
  E := []
  K := fun _ x cs => k49.K w0 x cs
  M := fun _ _ _ x cs => k49.K w0 x cs
  K_len := fun h => k49.K_len h
  K_one := fun h => k49.K_one h
  K_below := fun _ h => h
  K_of_M := fun h => h
  M_mono := fun _ h => h
  M_bound := fun h => h
  M_move := fun _ h => h
  M_lower := fun _ h => h
theorem kSh_C {w0 W : World} {A : Option Addr} {n : Nat} {xs : List S49} (h : (kSh w0).C W A n xs) (hb : Below w0.heap.size w0 W) : k49.C W A n xs :=
  ReadsRow.imp_ (R := k49.K w0) (size := 4) h (Below.refl _ _) (fun _ _ hp => k49.K_below hb hp)
theorem kSh_rows {w0 W : World} {A : Option Addr} {n : Nat} {xs : List S49} (h : k49.C w0 A n xs) (hb : Below w0.heap.size w0 W) : ReadsRow (k49.K w0) 4 W A n xs := ReadsRow.imp_ h hb (fun _ _ hp => hp)
def mnI (a b : Int) : Int := if b < a then b else a
/-- More cost for task j. -/
def costed (l : List S49) (j m : Int) : List S49 := l.set j.toNat ⟨mn ((rd_T49 l j).f0 + m) 1000, (rd_T49 l j).f1, (rd_T49 l j).f2, (rd_T49 l j).f3⟩
/-- A smaller period for task j. -/
def faster (l : List S49) (j m : Int) : List S49 := l.set j.toNat ⟨(rd_T49 l j).f0, mx 1 ((rd_T49 l j).f1 - m), mn (rd_T49 l j).f2 (mx 1 ((rd_T49 l j).f1 - m)), (rd_T49 l j).f3⟩
/-- A smaller response time, or an error that is none. -/
def worse (r n : Int × Int) : Prop := (n.2 = 0 ∧ n.1 < r.1) ∨ (n.2 ≠ 0 ∧ n.2 ≠ 21)
def ontimelaw44_ResponseMonotone.body (k : Nat) (l0 : List S49) (i j m : Int) : Option Bool :=
  (response_Response.f k l0 i).bind fun r => if r.2 = 0 then
    ((response_Response.f k (costed l0 j m) i).bind fun n => if ¬ ((n.2 = 0 ∧ n.1 < r.1) ∨ (n.2 ≠ 0 ∧ n.2 ≠ 21)) then
      ((response_Response.f k (if j < i then faster l0 j m else l0) i).bind fun n => if ¬ ((n.2 = 0 ∧ n.1 < r.1) ∨ (n.2 ≠ 0 ∧ n.2 ≠ 21)) then some true else none) else none) else some true
def ontimelaw44_ResponseMonotone.f (k : Nat) (l0 : List S49) (a1 a2 a3 : Int) : Option Bool :=
  if 0 ≤ a1 ∧ a1 ≤ 255 ∧ 0 ≤ a2 ∧ a2 ≤ 255 ∧ 0 ≤ a3 ∧ a3 ≤ 255 then
    ((ontimelaw44_awake.f k).bind fun t => if t = true then ((ontimelaw44_great.f k l0).bind fun g => if g = true then some true else if (l0.length : Int) = 0 then some true else
      ((ceiling_Valid.f k l0).bind fun v => if v = true then (if l0.length ≤ 20 ∧ ∀ t ∈ l0, vldT t = true then ontimelaw44_ResponseMonotone.body k l0 (Int.tmod a1 l0.length) (Int.tmod a2 l0.length) a3 else none) else some true)) else none) else none
set_option maxHeartbeats 8000000 in
set_option maxRecDepth 100000 in
theorem ontimelaw44_ResponseMonotone.calls (k : Nat) (A0 : Option Addr) (c0 : Nat) (l0 : List (S49)) (a1 : Int) (a2 : Int) (a3 : Int) (r : Bool) (w : World) (hr0 : Kd.C k49 w A0 l0.length l0) (hc0 : l0.length ≤ c0) (h : ontimelaw44_ResponseMonotone.f k l0 a1 a2 a3 = some r) :
    Calls Try.prog 7 #[.slice A0 l0.length c0, .int .u8 a1, .int .u8 a2, .int .u8 a3] w fun e w' => e = .returned (.bool r) ∧ Below w.heap.size w w' := by
  have hu49 := Try.underlying49
  have hu22 := Try.underlying22
  have HR := Aside0.mk hr0
  have HCAP := Aside0.mk hc0
  clear hr0 hc0
  unfold ontimelaw44_ResponseMonotone.f at h
  by_cases hb : 0 ≤ a1 ∧ a1 ≤ 255 ∧ 0 ≤ a2 ∧ a2 ≤ 255 ∧ 0 ≤ a3 ∧ a3 ≤ 255
  case neg => rw [if_neg hb] at h; cases h
  rw [if_pos hb] at h
  obtain ⟨b1, b2, b3, b4, b5, b6⟩ := hb
  obtain ⟨t, h1, h⟩ := Option.bind_eq_some_iff.mp h
  cases t with
  | false => rw [if_neg (by simp)] at h; cases h
  | true =>
  rw [if_pos rfl] at h
  have A1 := Aside0.mk h1
  clear h1
  obtain ⟨g, h1, h⟩ := Option.bind_eq_some_iff.mp h
  have A2 := Aside0.mk h1
  clear h1
  cases g with
  | true =>
    rw [if_pos rfl] at h
    obtain rfl := Option.some.inj h
    clear h
    go_enter Try.func7, Try.ntmps7
    go_wp2_with fail
    refine (ontimelaw44_awake.calls k true w A1.out).mono ?_
    rintro e w1 ⟨rfl, hb1⟩
    have HB1 := Aside0.mk hb1
    clear hb1
    go_wp2_with fail
    refine (ontimelaw44_great.calls k A0 c0 l0 true w1 (Kd.C_below HR.out HB1.out) HCAP.out A2.out).mono ?_
    rintro e w2 ⟨rfl, hb2⟩
    have HB2 := Aside0.mk (below_step HB1.out hb2)
    clear hb2
    go_wp2
    go_ret
    exact ⟨rfl, HB2.out⟩
  | false =>
  rw [if_neg (by simp)] at h
  by_cases hl : (l0.length : Int) = 0
  · rw [if_pos hl] at h
    obtain rfl := Option.some.inj h
    have hl' : ((l0.length : Int) == 0) = true := beq_iff_eq.2 hl
    clear h
    go_enter Try.func7, Try.ntmps7
    go_wp2_with fail
    refine (ontimelaw44_awake.calls k true w A1.out).mono ?_
    rintro e w1 ⟨rfl, hb1⟩
    have HB1 := Aside0.mk hb1
    clear hb1
    go_wp2_with fail
    refine (ontimelaw44_great.calls k A0 c0 l0 false w1 (Kd.C_below HR.out HB1.out) HCAP.out A2.out).mono ?_
    rintro e w2 ⟨rfl, hb2⟩
    have HB2 := Aside0.mk (below_step HB1.out hb2)
    clear hb2
    go_wp2
    go_ret
    exact ⟨rfl, HB2.out⟩
  · rw [if_neg hl] at h
    have hl' : ((l0.length : Int) == 0) = false := beq_eq_false_iff_ne.2 hl
    obtain ⟨v, h1, h⟩ := Option.bind_eq_some_iff.mp h
    have A3 := Aside0.mk h1
    clear h1
    cases v with
    | false =>
      rw [if_neg (by simp)] at h
      obtain rfl := Option.some.inj h
      clear h
      go_enter Try.func7, Try.ntmps7
      go_wp2_with fail
      refine (ontimelaw44_awake.calls k true w A1.out).mono ?_
      rintro e w1 ⟨rfl, hb1⟩
      have HB1 := Aside0.mk hb1
      clear hb1
      go_wp2_with fail
      refine (ontimelaw44_great.calls k A0 c0 l0 false w1 (Kd.C_below HR.out HB1.out) HCAP.out A2.out).mono ?_
      rintro e w2 ⟨rfl, hb2⟩
      have HB2 := Aside0.mk (below_step HB1.out hb2)
      clear hb2
      go_wp2_with (go_at_call 20; refine (ceiling_Valid.calls k A0 c0 l0 false w2 (Kd.C_below HR.out HB2.out) HCAP.out A3.out).mono ?_; rintro e w3 ⟨rfl, hb3⟩; have HB3 := Aside0.mk (below_step HB2.out hb3); clear hb3)
      go_ret
      exact ⟨rfl, HB3.out⟩
    | true =>
      rw [if_pos rfl] at h
      by_cases hall : l0.length ≤ 20 ∧ ∀ t ∈ l0, vldT t = true
      case neg => rw [if_neg hall] at h; cases h
      rw [if_pos hall] at h
      obtain ⟨h20, hall⟩ := hall
      have hlp : 0 < (l0.length : Int) := by omega
      have hl2 : ¬ (l0 = []) := fun h_ => hl (by rw [h_]; rfl)
      have hl3 : ((l0.length : Int) != 0) = true := bne_iff_ne.mpr hl
      have i0 : 0 ≤ Int.tmod a1 l0.length ∧ Int.tmod a1 l0.length < l0.length := by
        rw [Int.tmod_eq_emod_of_nonneg b1]
        exact ⟨Int.emod_nonneg _ hl, Int.emod_lt_of_pos _ hlp⟩
      have j0 : 0 ≤ Int.tmod a2 l0.length ∧ Int.tmod a2 l0.length < l0.length := by
        rw [Int.tmod_eq_emod_of_nonneg b3]
        exact ⟨Int.emod_nonneg _ hl, Int.emod_lt_of_pos _ hlp⟩
      have e1 : IntKind.i64.wrap a1 = a1 := IntWalk.i64_in _ (by omega)
      have e2 : IntKind.i64.wrap a2 = a2 := IntWalk.i64_in _ (by omega)
      have e3 : IntKind.i64.wrap a3 = a3 := IntWalk.i64_in _ (by omega)
      have H := Aside0.mk h
      have HALL := Aside0.mk hall
      have HLEN := Aside0.mk h20
      clear h hall
      go_enter Try.func7, Try.ntmps7
      go_wp2_with fail
      refine (ontimelaw44_awake.calls k true w A1.out).mono ?_
      rintro e w1 ⟨rfl, hb1⟩
      have HB1 := Aside0.mk hb1
      clear hb1
      go_wp2_with fail
      refine (ontimelaw44_great.calls k A0 c0 l0 false w1 (Kd.C_below HR.out HB1.out) HCAP.out A2.out).mono ?_
      rintro e w2 ⟨rfl, hb2⟩
      have HB2 := Aside0.mk (below_step HB1.out hb2)
      clear hb2 HB1
      go_wp2_with (go_at_call 20; refine (ceiling_Valid.calls k A0 c0 l0 true w2 (Kd.C_below HR.out HB2.out) HCAP.out A3.out).mono ?_; rintro e w3 ⟨rfl, hb3⟩; have HB3 := Aside0.mk (below_step HB2.out hb3); clear hb3 HB2)
      go_region_held3 (fun w' => Below w.heap.size w w') (first | exact below_drew HB3.out | exact HB3.out | assumption) (fail)
      have HB4 := Aside0.mk (below_drew HB3.out)
      clear HB3
      generalize w3.drew = w4 at *
      generalize Int.tmod a1 l0.length = i at *
      generalize Int.tmod a2 l0.length = j at *
      have h := H.out
      clear H
      unfold ontimelaw44_ResponseMonotone.body at h
      obtain ⟨⟨r1, r2⟩, h1, h⟩ := Option.bind_eq_some_iff.mp h
      have A4 := Aside0.mk h1
      clear h1
      go_wp2_with fail
      refine (response_Response.calls k A0 c0 l0 i r1 r2 w4 (Kd.C_below HR.out HB4.out) HCAP.out A4.out).mono ?_
      rintro e w5 ⟨rfl, hb5⟩
      have HB5 := Aside0.mk (below_step HB4.out hb5)
      clear hb5 HB4
      by_cases hr2 : r2 = 0
      case neg =>
        rw [if_neg hr2] at h
        obtain rfl := Option.some.inj h
        clear h
        have hr3 : (r2 != 0) = true := bne_iff_ne.mpr hr2
        have hr4 : (r2 == 0) = false := beq_eq_false_iff_ne.2 hr2
        go_wp2
        go_ret
        exact ⟨rfl, HB5.out⟩
      subst hr2
      rw [if_pos rfl] at h
      have H := Aside0.mk h
      clear h
      have hlb : l0.length ≤ 20 := HLEN.out
      obtain ⟨v1, v2, v3, v4, v5, v6, _⟩ := vldT_of (HALL.out _ (rd49_mem j0.1 j0.2))
      have e4 : IntKind.i64.wrap ((rd_T49 l0 j).f0 + a3) = (rd_T49 l0 j).f0 + a3 := IntWalk.i64_in _ (by omega)
      have e5 : IntKind.i64.wrap ((rd_T49 l0 j).f1 - a3) = (rd_T49 l0 j).f1 - a3 := IntWalk.i64_in _ (by omega)
      have hsz := HB5.out.size
      (generalize htj : rd_T49 l0 j = tj at *)
      have HTJ := Aside0.mk htj
      clear htj
      obtain ⟨cm, e6⟩ : ∃ cm, (if 1000 < tj.f0 + a3 then (1000 : Int) else tj.f0 + a3) = cm := ⟨_, rfl⟩
      obtain ⟨pm, e7⟩ : ∃ pm, (if 1 < tj.f1 - a3 then tj.f1 - a3 else 1) = pm := ⟨_, rfl⟩
      obtain ⟨dm, e8⟩ : ∃ dm, (if pm < tj.f2 then pm else tj.f2) = dm := ⟨_, rfl⟩
      have ECM : Aside0 (costed l0 j a3 = l0.set j.toNat ⟨cm, tj.f1, tj.f2, tj.f3⟩) := ⟨by unfold costed; rw [HTJ.out, ← e6]; rfl⟩
      have EFA : Aside0 (faster l0 j a3 = l0.set j.toNat ⟨tj.f0, pm, dm, tj.f3⟩) := ⟨by unfold faster; rw [HTJ.out, ← e8, ← e7]; rfl⟩
      by_cases hji : j < i
      · go_wp2_with (first
        | ((with_reducible refine gate_dst (N := 51) rfl ?_); refine Kd.R_lit (kSh w) _ 49 ?hg (N := 51) ?hd (xs := ([] : List S49)) (inner := []) (ok := fun _ => True) (okp := fun _ => True) ?hr ?hp (fun _ hk => hk) trivial (Below.refl _ _) (Nat.le_refl _) (by simp) ?_; (case hd => rfl); (case hg => rfl); (case hr => first | (go_simp; done) | (go_simp; rfl)); (case hp => exact Reps.none _ _); intro va w6 ho6 hb6 hg_ hnew_; clear hg_ hnew_; have HA6 := Aside0.mk ho6; have HBA6 := Aside0.mk hb6; clear ho6 hb6)
        | ((with_reducible refine gate_builtin (b := .append) (xs := #[.tmp 51, .tmp 52]) rfl ?_); at_builtin; refine Kd.R_append_rows (kSh w) (w0 := w5) w5.heap.size rfl (.tmp 51) (.tmp 52) 22 49 (.agg #[(.int .i64 0), (.int .i64 0), (.int .i64 0), (.slice none 0 0)]) 48 rfl Try.underlying22 info49 rfl (show 0 < 4 by decide) (by omega) va ([] : List S49) l0 A0 l0.length c0 (fun _ => True) (fun _ => False) rfl rfl HA6.out (kSh_rows HR.out (below_step HB5.out HBA6.out)) (fun _ _ h => h) (fun _ h => h.elim) (fun _ _ => trivial) HBA6.out (below_size HBA6.out) (by simp only [List.length_nil]; omega) ?_; intro va2 w7 ho7 hb7 hg7 hat7; clear hg7 hat7; rw [List.nil_append] at ho7; have HA7 := Aside0.mk ho7; have HBA7 := Aside0.mk hb7; clear ho7 hb7 HA6 HBA6)
        | ((with_reducible refine gate_dst (N := 54) rfl ?_); refine Kd.R_lit (kSh w) _ 49 ?hg (N := 54) ?hd (xs := ([] : List S49)) (inner := []) (ok := fun _ => True) (okp := fun _ => True) ?hr ?hp (fun _ hk => hk) trivial (Below.refl _ _) (Nat.le_refl _) (by simp) ?_; (case hd => rfl); (case hg => rfl); (case hr => first | (go_simp; done) | (go_simp; rfl)); (case hp => exact Reps.none _ _); intro vb w8 ho8 hb8 hg_ hnew_; clear hg_ hnew_; have HB8 := Aside0.mk ho8; have HBB8 := Aside0.mk hb8; clear ho8 hb8)
        | ((with_reducible refine gate_builtin (b := .append) (xs := #[.tmp 54, .tmp 55]) rfl ?_); at_builtin; refine Kd.R_append_rows (kSh w) (w0 := w7) w7.heap.size rfl (.tmp 54) (.tmp 55) 22 49 (.agg #[(.int .i64 0), (.int .i64 0), (.int .i64 0), (.slice none 0 0)]) 48 rfl Try.underlying22 info49 rfl (show 0 < 4 by decide) (by omega) vb ([] : List S49) l0 A0 l0.length c0 (fun _ => True) (fun _ => False) rfl rfl HB8.out (kSh_rows HR.out (below_step (below_step HB5.out HBA7.out) HBB8.out)) (fun _ _ h => h) (fun _ h => h.elim) (fun _ _ => trivial) HBB8.out (below_size HBB8.out) (by simp only [List.length_nil]; omega) ?_; intro vb2 w9 ho9 hb9 hg9 hat9; clear hg9 hat9; rw [List.nil_append] at ho9; have HB9 := Aside0.mk ho9; have HBB9 := Aside0.mk hb9; clear ho9 hb9 HB8 HBB8;
            (obtain ⟨ga, ca, ea_, ga0, ga1, _⟩ := Kd.R_form HA7.out (by omega)); (obtain ⟨gb, cb, eb_, gb0, gb1, _⟩ := Kd.R_form HB9.out (by omega)); subst ea_ eb_; have HA9 := Aside0.mk (Kd.R_below HA7.out HBB9.out); have HW9 := Aside0.mk (below_step (below_step HB5.out HBA7.out) HBB9.out); clear HA7 HBA7 HBB9;
            (obtain ⟨ce, hcl, hM, hcc, hfr⟩ := Kd.R_elem HA9.out z49 j j0.1 (by omega)); (obtain ⟨Ae, ne, rfl, l3, g3⟩ := k49_open (w := w) (x := tj) (by rw [← HTJ.out]; exact hM)); clear hM;
            have hx0 : w9.cell? ⟨ga, j.toNat * 4, none⟩ = some (.int .i64 tj.f0) := hcc 0 _ rfl; have hf0 : w9.frozen? ⟨ga, j.toNat * 4, none⟩ = false := hfr 0; have HCL := Aside0.mk hcl; have HCC := Aside0.mk hcc; have HL3 := Aside0.mk l3; have HG3 := Aside0.mk g3; clear hcl hcc hfr l3 g3)
        | ((with_reducible refine gate_store (t := 3) (p := 69) rfl ?_); refine store_event (t := 3) (p := 69) (v := ?vo69) (w1 := w9.setCell ⟨ga, j.toNat * 4, none⟩ (.int .i64 cm)) ?hg ?ho ?hn ?hr ?_; (case ho => rfl); (case hg => rfl); (case hn => rfl); (case hr => first | (go_simp; done) | (go_simp; rfl)); intro w10 hw10;
            (have HP := Kd.R_seg HA9.out j j0.1 (by omega) HCL.out HCC.out (seg := [.int .i64 cm]) (j := 0) (show 1 ≤ 4 by decide) (x' := ⟨cm, tj.f1, tj.f2, tj.f3⟩) (okp := fun _ => False) (k49_mk w ⟨cm, tj.f1, tj.f2, tj.f3⟩ HL3.out HG3.out) (fun _ h => h.elim));
            (have HA10 : Aside0 ((kSh w).R 49 w10 w5.heap.size (fun _ => True) (.slice (some ⟨ga, 0, none⟩) l0.length ca) (costed l0 j a3)) := ⟨by rw [hw10, ECM.out]; exact HP.1⟩);
            (have HB10 : Aside0 ((kSh w).R 49 w10 w7.heap.size (fun _ => True) (.slice (some ⟨gb, 0, none⟩) l0.length cb) l0) := ⟨by rw [hw10]; exact Kd.R_grown2 HB9.out rfl HP.2 (fun k hk he => by have h1 : some ga = some k := hk; have h2 : some k = some gb := he; rw [← h1] at h2; injection h2; omega)⟩);
            (have HW10 : Aside0 (Below w.heap.size w w10) := ⟨by rw [hw10]; exact below_set HW9.out (by omega)⟩); clear HP hw10 HA9 HB9 HW9 HCL HCC hx0 hf0;
            (obtain ⟨ce2, hcl, hM, hcc, hfr⟩ := Kd.R_elem HB10.out z49 j j0.1 (by omega)); (obtain ⟨Ab, nb, rfl, l3, g3⟩ := k49_open (w := w) (x := tj) (by rw [← HTJ.out]; exact hM)); clear hM;
            have hy1 : w10.cell? ⟨gb, j.toNat * 4 + 1, none⟩ = some (.int .i64 tj.f1) := hcc 1 _ rfl; have hk1 : w10.frozen? ⟨gb, j.toNat * 4 + 1, none⟩ = false := hfr 1; have HCL2 := Aside0.mk hcl; have HCC2 := Aside0.mk hcc; have HL32 := Aside0.mk l3; have HG32 := Aside0.mk g3; clear hcl hcc hfr l3 g3)
        | ((with_reducible refine gate_store (t := 3) (p := 85) rfl ?_); refine store_event (t := 3) (p := 85) (v := ?vo85) (w1 := w10.setCell ⟨gb, j.toNat * 4 + 1, none⟩ (.int .i64 pm)) ?hg ?ho ?hn ?hr ?_; (case ho => rfl); (case hg => rfl); (case hn => rfl); (case hr => first | (go_simp; done) | (go_simp; rfl)); intro w11 hw11;
            (have HP := Kd.R_seg HB10.out j j0.1 (by omega) HCL2.out HCC2.out (seg := [.int .i64 pm]) (j := 1) (show 2 ≤ 4 by decide) (x' := ⟨tj.f0, pm, tj.f2, tj.f3⟩) (okp := fun _ => False) (k49_mk w ⟨tj.f0, pm, tj.f2, tj.f3⟩ HL32.out HG32.out) (fun _ h => h.elim));
            (have HB11 : Aside0 ((kSh w).R 49 w11 w7.heap.size (fun _ => True) (.slice (some ⟨gb, 0, none⟩) l0.length cb) (l0.set j.toNat ⟨tj.f0, pm, tj.f2, tj.f3⟩)) := ⟨by rw [hw11]; exact HP.1⟩);
            (have HA11 : Aside0 ((kSh w).R 49 w11 w5.heap.size (fun _ => True) (.slice (some ⟨ga, 0, none⟩) l0.length ca) (costed l0 j a3)) := ⟨by rw [hw11]; exact Kd.R_grown2 HA10.out rfl HP.2 (fun k hk he => by have h1 : some gb = some k := hk; have h2 : some k = some ga := he; rw [← h1] at h2; injection h2; omega)⟩);
            (have HW11 : Aside0 (Below w.heap.size w w11) := ⟨by rw [hw11]; exact below_set HW10.out (by omega)⟩); clear HP hw11 HA10 HB10 HW10 HCL2 HCC2 hy1 hk1;
            (obtain ⟨ce3, hcl, hM, hcc, hfr⟩ := Kd.R_elem HB11.out z49 j j0.1 (by omega)); (obtain ⟨Ad, nd, rfl, l3, g3⟩ := k49_open (w := w) (x := ⟨tj.f0, pm, tj.f2, tj.f3⟩) (by have e := hM; rw [List.getD_eq_getElem?_getD, List.getElem?_set_self (by omega)] at e; exact e)); clear hM;
            have hz1 : w11.cell? ⟨gb, j.toNat * 4 + 1, none⟩ = some (.int .i64 pm) := hcc 1 _ rfl; have hz2 : w11.cell? ⟨gb, j.toNat * 4 + 2, none⟩ = some (.int .i64 tj.f2) := hcc 2 _ rfl; have hk1 : w11.frozen? ⟨gb, j.toNat * 4 + 1, none⟩ = false := hfr 1; have hk2 : w11.frozen? ⟨gb, j.toNat * 4 + 2, none⟩ = false := hfr 2; have HCL3 := Aside0.mk hcl; have HCC3 := Aside0.mk hcc; have HL33 := Aside0.mk l3; have HG33 := Aside0.mk g3; clear hcl hcc hfr l3 g3)
        | fail)
        have hz1d : w11.drew.cell? ⟨gb, j.toNat * 4 + 1, none⟩ = some (.int .i64 pm) := hz1
        have hz2d : w11.drew.cell? ⟨gb, j.toNat * 4 + 2, none⟩ = some (.int .i64 tj.f2) := hz2
        have hk2d : w11.drew.frozen? ⟨gb, j.toNat * 4 + 2, none⟩ = false := hk2
        refine start_ (n := 16) (S := fun w' => w'.cell? ⟨gb, j.toNat * 4 + 2, none⟩ = some (.int .i64 tj.f2) ∧ w'.cell? ⟨gb, j.toNat * 4 + 1, none⟩ = some (.int .i64 pm)) (ds := [15]) #[false, false, false, false, false, false, false, false, false, false, false, false, false, false, false, false] (by kernel_rfl) rfl rfl ⟨hz2, hz1⟩ (fun hHeld => ?_)
        refine pure_ (i := 0) (N := some 86) (v := ?_) (a' := ?_) #[true, false, false, false, false, false, false, false, false, false, false, false, false, false, false, false] rfl rfl (by kernel_rfl) (fun _ _ _ h => h) (Or.inl ⟨by rfl, ?_⟩) ?_ ?_
        rotate_left
        · intro w'
          go_simp
          with_reducible rfl
        rotate_left
        · simp only [Act.put, List.setIfInBounds_toArray, List.set_cons_zero, List.set_cons_succ, i64_w, i32_w]
          rfl
        refine pure_ (i := 1) (N := some 87) (v := ?_) (a' := ?_) #[true, true, false, false, false, false, false, false, false, false, false, false, false, false, false, false] rfl rfl (by kernel_rfl) (fun _ _ _ h => h) (Or.inl ⟨by rfl, ?_⟩) ?_ ?_
        rotate_left
        · intro w'
          go_simp
          with_reducible rfl
        rotate_left
        · simp only [Act.put, List.setIfInBounds_toArray, List.set_cons_zero, List.set_cons_succ, i64_w, i32_w]
          rfl
        refine pure_ (i := 2) (N := some 88) (v := ?_) (a' := ?_) #[true, true, true, false, false, false, false, false, false, false, false, false, false, false, false, false] rfl rfl (by kernel_rfl) (fun _ _ _ h => h) (Or.inl ⟨by rfl, ?_⟩) ?_ ?_
        rotate_left
        · intro w'
          go_simp
          with_reducible rfl
        rotate_left
        · simp only [Act.put, List.setIfInBounds_toArray, List.set_cons_zero, List.set_cons_succ, i64_w, i32_w]
          rfl
        refine pure_ (i := 3) (N := some 89) (v := ?_) (a' := ?_) #[true, true, true, true, false, false, false, false, false, false, false, false, false, false, false, false] rfl rfl (by kernel_rfl) (fun _ _ _ h => h) (Or.inl ⟨by rfl, ?_⟩) ?_ ?_
        rotate_left
        · intro w'
          go_simp
          with_reducible rfl
        rotate_left
        · simp only [Act.put, List.setIfInBounds_toArray, List.set_cons_zero, List.set_cons_succ, i64_w, i32_w]
          rfl
        refine pure_ (i := 4) (N := some 90) (v := ?_) (a' := ?_) #[true, true, true, true, true, false, false, false, false, false, false, false, false, false, false, false] rfl rfl (by kernel_rfl) (fun _ _ _ h => h) (Or.inl ⟨by rfl, ?_⟩) ?_ ?_
        rotate_left
        · intro w'
          go_simp
          with_reducible rfl
        rotate_left
        · simp only [Act.put, List.setIfInBounds_toArray, List.set_cons_zero, List.set_cons_succ, i64_w, i32_w]
          rfl
        refine pure_ (i := 5) (N := some 91) (v := ?_) (a' := ?_) #[true, true, true, true, true, true, false, false, false, false, false, false, false, false, false, false] rfl rfl (by kernel_rfl) (fun _ _ _ h => h) (Or.inl ⟨by rfl, ?_⟩) ?_ ?_
        rotate_left
        · intro w'
          go_simp
          with_reducible rfl
        rotate_left
        · simp only [Act.put, List.setIfInBounds_toArray, List.set_cons_zero, List.set_cons_succ, i64_w, i32_w]
          rfl
        refine pure_ (i := 7) (N := some 93) (v := ?_) (a' := ?_) #[true, true, true, true, true, true, false, true, false, false, false, false, false, false, false, false] rfl rfl (by kernel_rfl) (fun _ _ _ h => h) (Or.inl ⟨by rfl, ?_⟩) ?_ ?_
        rotate_left
        · intro w'
          go_simp
          with_reducible rfl
        rotate_left
        · simp only [Act.put, List.setIfInBounds_toArray, List.set_cons_zero, List.set_cons_succ, i64_w, i32_w]
          rfl
        refine pure_ (i := 8) (N := some 94) (v := ?_) (a' := ?_) #[true, true, true, true, true, true, false, true, true, false, false, false, false, false, false, false] rfl rfl (by kernel_rfl) (fun _ _ _ h => h) (Or.inl ⟨by rfl, ?_⟩) ?_ ?_
        rotate_left
        · intro w'
          go_simp
          with_reducible rfl
        rotate_left
        · simp only [Act.put, List.setIfInBounds_toArray, List.set_cons_zero, List.set_cons_succ, i64_w, i32_w]
          rfl
        refine pure_ (i := 9) (N := some 95) (v := ?_) (a' := ?_) #[true, true, true, true, true, true, false, true, true, true, false, false, false, false, false, false] rfl rfl (by kernel_rfl) (fun _ _ _ h => h) (Or.inl ⟨by rfl, ?_⟩) ?_ ?_
        rotate_left
        · intro w'
          go_simp
          with_reducible rfl
        rotate_left
        · simp only [Act.put, List.setIfInBounds_toArray, List.set_cons_zero, List.set_cons_succ, i64_w, i32_w]
          rfl
        refine pure_ (i := 10) (N := some 96) (v := ?_) (a' := ?_) #[true, true, true, true, true, true, false, true, true, true, true, false, false, false, false, false] rfl rfl (by kernel_rfl) (fun _ _ _ h => h) (Or.inl ⟨by rfl, ?_⟩) ?_ ?_
        rotate_left
        · intro w'
          go_simp
          with_reducible rfl
        rotate_left
        · simp only [Act.put, List.setIfInBounds_toArray, List.set_cons_zero, List.set_cons_succ, i64_w, i32_w]
          rfl
        refine take_ (i := 6) (N := some 92) (v := ?_) (a' := ?_) #[true, true, true, true, true, true, true, true, true, true, true, false, false, false, false, false] rfl rfl (by kernel_rfl) (fun _ _ _ h => h) (Or.inl ⟨by rfl, ?_⟩) hHeld ?_ ?_
        rotate_left
        · rintro w' ⟨s0, s1⟩
          go_simp
          with_reducible rfl
        rotate_left
        · simp only [Act.put, List.setIfInBounds_toArray, List.set_cons_zero, List.set_cons_succ, i64_w, i32_w]
          rfl
        refine take_ (i := 11) (N := some 97) (v := ?_) (a' := ?_) #[true, true, true, true, true, true, true, true, true, true, true, true, false, false, false, false] rfl rfl (by kernel_rfl) (fun _ _ _ h => h) (Or.inl ⟨by rfl, ?_⟩) hHeld ?_ ?_
        rotate_left
        · rintro w' ⟨s0, s1⟩
          go_simp
          with_reducible rfl
        rotate_left
        · simp only [Act.put, List.setIfInBounds_toArray, List.set_cons_zero, List.set_cons_succ, i64_w, i32_w]
          rfl
        refine pure_ (i := 12) (N := some 98) (v := ?_) (a' := ?_) #[true, true, true, true, true, true, true, true, true, true, true, true, true, false, false, false] rfl rfl (by kernel_rfl) (fun _ _ _ h => h) (Or.inl ⟨by rfl, ?_⟩) ?_ ?_
        rotate_left
        · intro w'
          go_simp
          with_reducible rfl
        rotate_left
        · simp only [Act.put, List.setIfInBounds_toArray, List.set_cons_zero, List.set_cons_succ, i64_w, i32_w]
          rfl
        refine pure_ (i := 13) (N := some 99) (v := ?_) (a' := ?_) #[true, true, true, true, true, true, true, true, true, true, true, true, true, true, false, false] rfl rfl (by kernel_rfl) (fun _ _ _ h => h) (Or.inl ⟨by rfl, ?_⟩) ?_ ?_
        rotate_left
        · intro w'
          go_simp
          with_reducible rfl
        rotate_left
        · simp only [Act.put, List.setIfInBounds_toArray, List.set_cons_zero, List.set_cons_succ, i64_w, i32_w]
          rfl
        refine pure_ (i := 14) (N := some 100) (v := ?_) (a' := ?_) #[true, true, true, true, true, true, true, true, true, true, true, true, true, true, true, false] rfl rfl (by kernel_rfl) (fun _ _ _ h => h) (Or.inl ⟨by rfl, ?_⟩) ?_ ?_
        rotate_left
        · intro w'
          go_simp
          with_reducible rfl
        rotate_left
        · simp only [Act.put, List.setIfInBounds_toArray, List.set_cons_zero, List.set_cons_succ, i64_w, i32_w]
          rfl
        refine last_ (i := 15) (N := none) #[true, true, true, true, true, true, true, true, true, true, true, true, true, true, true, true] rfl rfl (by kernel_rfl) (by decide) (fun K hK => ?_)
        refine skip_ (w1 := ?_) (by rfl) rfl ?_ ?_
        rotate_left
        · go_simp
          rfl
        refine hK.out _ _ ?_
        clear hK K
        refine done_ (by kernel_rfl) ?_
        have HP := Kd.R_seg HB11.out j j0.1 (by omega) HCL3.out HCC3.out (seg := [.int .i64 dm]) (j := 2) (show 3 ≤ 4 by decide) (x' := ⟨tj.f0, pm, dm, tj.f3⟩) (okp := fun _ => False) (k49_mk w ⟨tj.f0, pm, dm, tj.f3⟩ HL33.out HG33.out) (fun _ h => h.elim)
        have HBF : Aside0 ((kSh w).R 49 (w11.setCell ⟨gb, j.toNat * 4 + 2, none⟩ (.int .i64 dm)).drew w7.heap.size (fun _ => True) (.slice (some ⟨gb, 0, none⟩) l0.length cb) (faster l0 j a3)) := ⟨by rw [EFA.out]; have e := HP.1; rw [List.set_set] at e; exact Kd.R_drew e⟩
        have HAF : Aside0 ((kSh w).R 49 (w11.setCell ⟨gb, j.toNat * 4 + 2, none⟩ (.int .i64 dm)).drew w5.heap.size (fun _ => True) (.slice (some ⟨ga, 0, none⟩) l0.length ca) (costed l0 j a3)) := ⟨Kd.R_drew (Kd.R_grown2 HA11.out rfl HP.2 (fun k hk he => by have h1 : some gb = some k := hk; have h2 : some k = some ga := he; rw [← h1] at h2; injection h2; omega))⟩
        have HWF : Aside0 (Below w.heap.size w (w11.setCell ⟨gb, j.toNat * 4 + 2, none⟩ (.int .i64 dm)).drew) := ⟨below_drew (below_set HW11.out (by omega))⟩
        clear HP HA11 HB11 HW11 HCL3 HCC3 hz1 hz2 hk1 hk2 hz1d hz2d hk2d
        generalize (w11.setCell ⟨gb, j.toNat * 4 + 2, none⟩ (.int .i64 dm)).drew = wF at *
        have hlenc : (costed l0 j a3).length = l0.length := by unfold costed; rw [List.length_set]
        have hlenb : (faster l0 j a3).length = l0.length := by unfold faster; rw [List.length_set]
        have hca : l0.length ≤ ca := (Kd.R_reads' HAF.out).2.1
        have hcb : l0.length ≤ cb := (Kd.R_reads' HBF.out).2.1
        have CA := Aside0.mk (kSh_C (Kd.R_reads' HAF.out).2.2 HWF.out)
        have CB := Aside0.mk (kSh_C (Kd.R_reads' HBF.out).2.2 HWF.out)
        have hsF := HWF.out.size
        clear HAF HBF
        have h := H.out
        clear H
        obtain ⟨⟨n1, n2⟩, g1, h⟩ := Option.bind_eq_some_iff.mp h
        by_cases q1 : (n2 = 0 ∧ n1 < r1) ∨ (n2 ≠ 0 ∧ n2 ≠ 21)
        · rw [if_neg (fun hh => hh q1)] at h; cases h
        rw [if_pos q1] at h
        obtain ⟨⟨m1, m2⟩, g2, h⟩ := Option.bind_eq_some_iff.mp h
        rw [if_pos hji] at g2
        by_cases q2 : (m2 = 0 ∧ m1 < r1) ∨ (m2 ≠ 0 ∧ m2 ≠ 21)
        · rw [if_neg (fun hh => hh q2)] at h; cases h
        rw [if_pos q2] at h
        obtain rfl := Option.some.inj h
        clear h
        have G1 := Aside0.mk g1
        have G2 := Aside0.mk g2
        have Q1 : Aside0 ((n2 = 0 ∧ r1 ≤ n1) ∨ n2 = 21) := ⟨by omega⟩
        have Q2 : Aside0 ((m2 = 0 ∧ r1 ≤ m1) ∨ m2 = 21) := ⟨by omega⟩
        clear g1 g2 q1 q2
        generalize faster l0 j a3 = bl at *
        go_wp2
        go_loopw [105] (fun v105 wr => ∃ (q : Int), v105 = .int .i64 q ∧ 0 ≤ q ∧ q ≤ 2 ∧ Aside0 (wr.cell? ⟨wF.heap.size, 0, none⟩ = some (.slice (some ⟨ga, 0, none⟩) l0.length ca) ∧ wr.cell? ⟨wF.heap.size, 1, none⟩ = some (.slice (some ⟨gb, 0, none⟩) l0.length cb) ∧
            k49.C wr (some ⟨ga, 0, none⟩) (costed l0 j a3).length (costed l0 j a3) ∧ k49.C wr (some ⟨gb, 0, none⟩) bl.length bl ∧ Below w.heap.size w wr)) (fun v _ => 2 - (intOf v).toNat)
        case atStart => exact ⟨0, rfl, by omega, by omega, ⟨World.cell?_alloc_new _ _ _ 0, World.cell?_alloc_new _ _ _ 1, Kd.C_alloc CA.out _, Kd.C_alloc CB.out _, below_alloc HWF.out _⟩⟩
        case round =>
          obtain ⟨q, rfl, q0, q2, HX⟩ := hrel
          obtain ⟨x0, x1, c1, c2, hb⟩ := HX.out
          have XA := Aside0.mk c1
          have XB := Aside0.mk c2
          have XW := Aside0.mk hb
          clear c1 c2 hb
          by_cases hq : q < 2
          · by_cases hq0 : q = 0
            · subst hq0
              go_wp2_with fail
              have hc := response_Response.calls k (some ⟨ga, 0, none⟩) ca (costed l0 j a3) i n1 n2 wr XA.out (by rw [hlenc]; exact hca) G1.out
              rw [hlenc] at hc
              refine hc.mono ?_
              rintro e wx ⟨rfl, hbx⟩
              have HN : Aside0 (wx.cell? ⟨wF.heap.size, 0, none⟩ = some (.slice (some ⟨ga, 0, none⟩) l0.length ca) ∧ wx.cell? ⟨wF.heap.size, 1, none⟩ = some (.slice (some ⟨gb, 0, none⟩) l0.length cb) ∧
                k49.C wx (some ⟨ga, 0, none⟩) (costed l0 j a3).length (costed l0 j a3) ∧ k49.C wx (some ⟨gb, 0, none⟩) bl.length bl ∧ Below w.heap.size w wx) := ⟨pw_cell_below hbx x0, pw_cell_below hbx x1, Kd.C_below XA.out hbx, Kd.C_below XB.out hbx, below_step XW.out hbx⟩
              clear hbx x0 x1 hc
              rcases Q1.out with ⟨rfl, hge⟩ | rfl
              · have hd : decide (n1 < r1) = false := decide_eq_false (by omega)
                go_wp2
                exact ⟨⟨1, rfl, by omega, by omega, HN⟩, by simp [intOf]⟩
              · go_wp2
                exact ⟨⟨1, rfl, by omega, by omega, HN⟩, by simp [intOf]⟩
            · obtain rfl : q = 1 := by omega
              go_wp2_with fail
              have hc := response_Response.calls k (some ⟨gb, 0, none⟩) cb bl i m1 m2 wr XB.out (by rw [hlenb]; exact hcb) G2.out
              rw [hlenb] at hc
              refine hc.mono ?_
              rintro e wx ⟨rfl, hbx⟩
              have HN : Aside0 (wx.cell? ⟨wF.heap.size, 0, none⟩ = some (.slice (some ⟨ga, 0, none⟩) l0.length ca) ∧ wx.cell? ⟨wF.heap.size, 1, none⟩ = some (.slice (some ⟨gb, 0, none⟩) l0.length cb) ∧
                k49.C wx (some ⟨ga, 0, none⟩) (costed l0 j a3).length (costed l0 j a3) ∧ k49.C wx (some ⟨gb, 0, none⟩) bl.length bl ∧ Below w.heap.size w wx) := ⟨pw_cell_below hbx x0, pw_cell_below hbx x1, Kd.C_below XA.out hbx, Kd.C_below XB.out hbx, below_step XW.out hbx⟩
              clear hbx x0 x1 hc
              rcases Q2.out with ⟨rfl, hge⟩ | rfl
              · have hd : decide (m1 < r1) = false := decide_eq_false (by omega)
                go_wp2
                exact ⟨⟨2, rfl, by omega, by omega, HN⟩, by simp [intOf]⟩
              · go_wp2
                exact ⟨⟨2, rfl, by omega, by omega, HN⟩, by simp [intOf]⟩
          · obtain rfl : q = 2 := by omega
            go_wp2
            go_ret
            exact ⟨rfl, XW.out⟩
      · go_wp2_with (first
        | ((with_reducible refine gate_dst (N := 51) rfl ?_); refine Kd.R_lit (kSh w) _ 49 ?hg (N := 51) ?hd (xs := ([] : List S49)) (inner := []) (ok := fun _ => True) (okp := fun _ => True) ?hr ?hp (fun _ hk => hk) trivial (Below.refl _ _) (Nat.le_refl _) (by simp) ?_; (case hd => rfl); (case hg => rfl); (case hr => first | (go_simp; done) | (go_simp; rfl)); (case hp => exact Reps.none _ _); intro va w6 ho6 hb6 hg_ hnew_; clear hg_ hnew_; have HA6 := Aside0.mk ho6; have HBA6 := Aside0.mk hb6; clear ho6 hb6)
        | ((with_reducible refine gate_builtin (b := .append) (xs := #[.tmp 51, .tmp 52]) rfl ?_); at_builtin; refine Kd.R_append_rows (kSh w) (w0 := w5) w5.heap.size rfl (.tmp 51) (.tmp 52) 22 49 (.agg #[(.int .i64 0), (.int .i64 0), (.int .i64 0), (.slice none 0 0)]) 48 rfl Try.underlying22 info49 rfl (show 0 < 4 by decide) (by omega) va ([] : List S49) l0 A0 l0.length c0 (fun _ => True) (fun _ => False) rfl rfl HA6.out (kSh_rows HR.out (below_step HB5.out HBA6.out)) (fun _ _ h => h) (fun _ h => h.elim) (fun _ _ => trivial) HBA6.out (below_size HBA6.out) (by simp only [List.length_nil]; omega) ?_; intro va2 w7 ho7 hb7 hg7 hat7; clear hg7 hat7; rw [List.nil_append] at ho7; have HA7 := Aside0.mk ho7; have HBA7 := Aside0.mk hb7; clear ho7 hb7 HA6 HBA6)
        | ((with_reducible refine gate_dst (N := 54) rfl ?_); refine Kd.R_lit (kSh w) _ 49 ?hg (N := 54) ?hd (xs := ([] : List S49)) (inner := []) (ok := fun _ => True) (okp := fun _ => True) ?hr ?hp (fun _ hk => hk) trivial (Below.refl _ _) (Nat.le_refl _) (by simp) ?_; (case hd => rfl); (case hg => rfl); (case hr => first | (go_simp; done) | (go_simp; rfl)); (case hp => exact Reps.none _ _); intro vb w8 ho8 hb8 hg_ hnew_; clear hg_ hnew_; have HB8 := Aside0.mk ho8; have HBB8 := Aside0.mk hb8; clear ho8 hb8)
        | ((with_reducible refine gate_builtin (b := .append) (xs := #[.tmp 54, .tmp 55]) rfl ?_); at_builtin; refine Kd.R_append_rows (kSh w) (w0 := w7) w7.heap.size rfl (.tmp 54) (.tmp 55) 22 49 (.agg #[(.int .i64 0), (.int .i64 0), (.int .i64 0), (.slice none 0 0)]) 48 rfl Try.underlying22 info49 rfl (show 0 < 4 by decide) (by omega) vb ([] : List S49) l0 A0 l0.length c0 (fun _ => True) (fun _ => False) rfl rfl HB8.out (kSh_rows HR.out (below_step (below_step HB5.out HBA7.out) HBB8.out)) (fun _ _ h => h) (fun _ h => h.elim) (fun _ _ => trivial) HBB8.out (below_size HBB8.out) (by simp only [List.length_nil]; omega) ?_; intro vb2 w9 ho9 hb9 hg9 hat9; clear hg9 hat9; rw [List.nil_append] at ho9; have HB9 := Aside0.mk ho9; have HBB9 := Aside0.mk hb9; clear ho9 hb9 HB8 HBB8;
            (obtain ⟨ga, ca, ea_, ga0, ga1, _⟩ := Kd.R_form HA7.out (by omega)); (obtain ⟨gb, cb, eb_, gb0, gb1, _⟩ := Kd.R_form HB9.out (by omega)); subst ea_ eb_; have HA9 := Aside0.mk (Kd.R_below HA7.out HBB9.out); have HW9 := Aside0.mk (below_step (below_step HB5.out HBA7.out) HBB9.out); clear HA7 HBA7 HBB9;
            (obtain ⟨ce, hcl, hM, hcc, hfr⟩ := Kd.R_elem HA9.out z49 j j0.1 (by omega)); (obtain ⟨Ae, ne, rfl, l3, g3⟩ := k49_open (w := w) (x := tj) (by rw [← HTJ.out]; exact hM)); clear hM;
            have hx0 : w9.cell? ⟨ga, j.toNat * 4, none⟩ = some (.int .i64 tj.f0) := hcc 0 _ rfl; have hf0 : w9.frozen? ⟨ga, j.toNat * 4, none⟩ = false := hfr 0; have HCL := Aside0.mk hcl; have HCC := Aside0.mk hcc; have HL3 := Aside0.mk l3; have HG3 := Aside0.mk g3; clear hcl hcc hfr l3 g3)
        | ((with_reducible refine gate_store (t := 3) (p := 69) rfl ?_); refine store_event (t := 3) (p := 69) (v := ?vo69) (w1 := w9.setCell ⟨ga, j.toNat * 4, none⟩ (.int .i64 cm)) ?hg ?ho ?hn ?hr ?_; (case ho => rfl); (case hg => rfl); (case hn => rfl); (case hr => first | (go_simp; done) | (go_simp; rfl)); intro w10 hw10;
            (have HP := Kd.R_seg HA9.out j j0.1 (by omega) HCL.out HCC.out (seg := [.int .i64 cm]) (j := 0) (show 1 ≤ 4 by decide) (x' := ⟨cm, tj.f1, tj.f2, tj.f3⟩) (okp := fun _ => False) (k49_mk w ⟨cm, tj.f1, tj.f2, tj.f3⟩ HL3.out HG3.out) (fun _ h => h.elim));
            (have HA10 : Aside0 ((kSh w).R 49 w10 w5.heap.size (fun _ => True) (.slice (some ⟨ga, 0, none⟩) l0.length ca) (costed l0 j a3)) := ⟨by rw [hw10, ECM.out]; exact HP.1⟩);
            (have HB10 : Aside0 ((kSh w).R 49 w10 w7.heap.size (fun _ => True) (.slice (some ⟨gb, 0, none⟩) l0.length cb) l0) := ⟨by rw [hw10]; exact Kd.R_grown2 HB9.out rfl HP.2 (fun k hk he => by have h1 : some ga = some k := hk; have h2 : some k = some gb := he; rw [← h1] at h2; injection h2; omega)⟩);
            (have HW10 : Aside0 (Below w.heap.size w w10) := ⟨by rw [hw10]; exact below_set HW9.out (by omega)⟩); clear HP hw10 HA9 HB9 HW9 HCL HCC hx0 hf0;
            (obtain ⟨ce2, hcl, hM, hcc, hfr⟩ := Kd.R_elem HB10.out z49 j j0.1 (by omega)); (obtain ⟨Ab, nb, rfl, l3, g3⟩ := k49_open (w := w) (x := tj) (by rw [← HTJ.out]; exact hM)); clear hM;
            have hy1 : w10.cell? ⟨gb, j.toNat * 4 + 1, none⟩ = some (.int .i64 tj.f1) := hcc 1 _ rfl; have hk1 : w10.frozen? ⟨gb, j.toNat * 4 + 1, none⟩ = false := hfr 1; have HCL2 := Aside0.mk hcl; have HCC2 := Aside0.mk hcc; have HL32 := Aside0.mk l3; have HG32 := Aside0.mk g3; clear hcl hcc hfr l3 g3)
        | ((with_reducible refine gate_store (t := 3) (p := 85) rfl ?_); refine store_event (t := 3) (p := 85) (v := ?vo85) (w1 := w10.setCell ⟨gb, j.toNat * 4 + 1, none⟩ (.int .i64 pm)) ?hg ?ho ?hn ?hr ?_; (case ho => rfl); (case hg => rfl); (case hn => rfl); (case hr => first | (go_simp; done) | (go_simp; rfl)); intro w11 hw11;
            (have HP := Kd.R_seg HB10.out j j0.1 (by omega) HCL2.out HCC2.out (seg := [.int .i64 pm]) (j := 1) (show 2 ≤ 4 by decide) (x' := ⟨tj.f0, pm, tj.f2, tj.f3⟩) (okp := fun _ => False) (k49_mk w ⟨tj.f0, pm, tj.f2, tj.f3⟩ HL32.out HG32.out) (fun _ h => h.elim));
            (have HB11 : Aside0 ((kSh w).R 49 w11 w7.heap.size (fun _ => True) (.slice (some ⟨gb, 0, none⟩) l0.length cb) (l0.set j.toNat ⟨tj.f0, pm, tj.f2, tj.f3⟩)) := ⟨by rw [hw11]; exact HP.1⟩);
            (have HA11 : Aside0 ((kSh w).R 49 w11 w5.heap.size (fun _ => True) (.slice (some ⟨ga, 0, none⟩) l0.length ca) (costed l0 j a3)) := ⟨by rw [hw11]; exact Kd.R_grown2 HA10.out rfl HP.2 (fun k hk he => by have h1 : some gb = some k := hk; have h2 : some k = some ga := he; rw [← h1] at h2; injection h2; omega)⟩);
            (have HW11 : Aside0 (Below w.heap.size w w11) := ⟨by rw [hw11]; exact below_set HW10.out (by omega)⟩); clear HP hw11 HA10 HB10 HW10 HCL2 HCC2 hy1 hk1;
            (obtain ⟨ce3, hcl, hM, hcc, hfr⟩ := Kd.R_elem HB11.out z49 j j0.1 (by omega)); (obtain ⟨Ad, nd, rfl, l3, g3⟩ := k49_open (w := w) (x := ⟨tj.f0, pm, tj.f2, tj.f3⟩) (by have e := hM; rw [List.getD_eq_getElem?_getD, List.getElem?_set_self (by omega)] at e; exact e)); clear hM;
            have hz1 : w11.cell? ⟨gb, j.toNat * 4 + 1, none⟩ = some (.int .i64 pm) := hcc 1 _ rfl; have hz2 : w11.cell? ⟨gb, j.toNat * 4 + 2, none⟩ = some (.int .i64 tj.f2) := hcc 2 _ rfl; have hk1 : w11.frozen? ⟨gb, j.toNat * 4 + 1, none⟩ = false := hfr 1; have hk2 : w11.frozen? ⟨gb, j.toNat * 4 + 2, none⟩ = false := hfr 2; have HCL3 := Aside0.mk hcl; have HCC3 := Aside0.mk hcc; have HL33 := Aside0.mk l3; have HG33 := Aside0.mk g3; clear hcl hcc hfr l3 g3)
        | fail)
        have hlenc : (costed l0 j a3).length = l0.length := by unfold costed; rw [List.length_set]
        have hlenb : l0.length = l0.length := rfl
        have hca : l0.length ≤ ca := (Kd.R_reads' HA10.out).2.1
        have hcb : l0.length ≤ cb := (Kd.R_reads' HB10.out).2.1
        have CA := Aside0.mk (kSh_C (Kd.R_reads' HA10.out).2.2 HW10.out)
        have CB := Aside0.mk (kSh_C (Kd.R_reads' HB10.out).2.2 HW10.out)
        have hsF := HW10.out.size
        clear HA10 HB10
        have h := H.out
        clear H
        obtain ⟨⟨n1, n2⟩, g1, h⟩ := Option.bind_eq_some_iff.mp h
        by_cases q1 : (n2 = 0 ∧ n1 < r1) ∨ (n2 ≠ 0 ∧ n2 ≠ 21)
        · rw [if_neg (fun hh => hh q1)] at h; cases h
        rw [if_pos q1] at h
        obtain ⟨⟨m1, m2⟩, g2, h⟩ := Option.bind_eq_some_iff.mp h
        rw [if_neg (show ¬ j < i by omega)] at g2
        by_cases q2 : (m2 = 0 ∧ m1 < r1) ∨ (m2 ≠ 0 ∧ m2 ≠ 21)
        · rw [if_neg (fun hh => hh q2)] at h; cases h
        rw [if_pos q2] at h
        obtain rfl := Option.some.inj h
        clear h
        have G1 := Aside0.mk g1
        have G2 := Aside0.mk g2
        have Q1 : Aside0 ((n2 = 0 ∧ r1 ≤ n1) ∨ n2 = 21) := ⟨by omega⟩
        have Q2 : Aside0 ((m2 = 0 ∧ r1 ≤ m1) ∨ m2 = 21) := ⟨by omega⟩
        clear g1 g2 q1 q2
        obtain ⟨bl, hbl⟩ : ∃ bl, bl = l0 := ⟨_, rfl⟩
        rw [← hbl] at G2 CB
        replace hlenb : bl.length = l0.length := by rw [hbl]
        go_wp2
        go_loopw [105] (fun v105 wr => ∃ (q : Int), v105 = .int .i64 q ∧ 0 ≤ q ∧ q ≤ 2 ∧ Aside0 (wr.cell? ⟨w10.heap.size, 0, none⟩ = some (.slice (some ⟨ga, 0, none⟩) l0.length ca) ∧ wr.cell? ⟨w10.heap.size, 1, none⟩ = some (.slice (some ⟨gb, 0, none⟩) l0.length cb) ∧
            k49.C wr (some ⟨ga, 0, none⟩) (costed l0 j a3).length (costed l0 j a3) ∧ k49.C wr (some ⟨gb, 0, none⟩) bl.length bl ∧ Below w.heap.size w wr)) (fun v _ => 2 - (intOf v).toNat)
        case atStart => exact ⟨0, rfl, by omega, by omega, ⟨World.cell?_alloc_new _ _ _ 0, World.cell?_alloc_new _ _ _ 1, Kd.C_alloc CA.out _, Kd.C_alloc CB.out _, below_alloc HW10.out _⟩⟩
        case round =>
          obtain ⟨q, rfl, q0, q2, HX⟩ := hrel
          obtain ⟨x0, x1, c1, c2, hb⟩ := HX.out
          have XA := Aside0.mk c1
          have XB := Aside0.mk c2
          have XW := Aside0.mk hb
          clear c1 c2 hb
          by_cases hq : q < 2
          · by_cases hq0 : q = 0
            · subst hq0
              go_wp2_with fail
              have hc := response_Response.calls k (some ⟨ga, 0, none⟩) ca (costed l0 j a3) i n1 n2 wr XA.out (by rw [hlenc]; exact hca) G1.out
              rw [hlenc] at hc
              refine hc.mono ?_
              rintro e wx ⟨rfl, hbx⟩
              have HN : Aside0 (wx.cell? ⟨w10.heap.size, 0, none⟩ = some (.slice (some ⟨ga, 0, none⟩) l0.length ca) ∧ wx.cell? ⟨w10.heap.size, 1, none⟩ = some (.slice (some ⟨gb, 0, none⟩) l0.length cb) ∧
                k49.C wx (some ⟨ga, 0, none⟩) (costed l0 j a3).length (costed l0 j a3) ∧ k49.C wx (some ⟨gb, 0, none⟩) bl.length bl ∧ Below w.heap.size w wx) := ⟨pw_cell_below hbx x0, pw_cell_below hbx x1, Kd.C_below XA.out hbx, Kd.C_below XB.out hbx, below_step XW.out hbx⟩
              clear hbx x0 x1 hc
              rcases Q1.out with ⟨rfl, hge⟩ | rfl
              · have hd : decide (n1 < r1) = false := decide_eq_false (by omega)
                go_wp2
                exact ⟨⟨1, rfl, by omega, by omega, HN⟩, by simp [intOf]⟩
              · go_wp2
                exact ⟨⟨1, rfl, by omega, by omega, HN⟩, by simp [intOf]⟩
            · obtain rfl : q = 1 := by omega
              go_wp2_with fail
              have hc := response_Response.calls k (some ⟨gb, 0, none⟩) cb bl i m1 m2 wr XB.out (by rw [hlenb]; exact hcb) G2.out
              rw [hlenb] at hc
              refine hc.mono ?_
              rintro e wx ⟨rfl, hbx⟩
              have HN : Aside0 (wx.cell? ⟨w10.heap.size, 0, none⟩ = some (.slice (some ⟨ga, 0, none⟩) l0.length ca) ∧ wx.cell? ⟨w10.heap.size, 1, none⟩ = some (.slice (some ⟨gb, 0, none⟩) l0.length cb) ∧
                k49.C wx (some ⟨ga, 0, none⟩) (costed l0 j a3).length (costed l0 j a3) ∧ k49.C wx (some ⟨gb, 0, none⟩) bl.length bl ∧ Below w.heap.size w wx) := ⟨pw_cell_below hbx x0, pw_cell_below hbx x1, Kd.C_below XA.out hbx, Kd.C_below XB.out hbx, below_step XW.out hbx⟩
              clear hbx x0 x1 hc
              rcases Q2.out with ⟨rfl, hge⟩ | rfl
              · have hd : decide (m1 < r1) = false := decide_eq_false (by omega)
                go_wp2
                exact ⟨⟨2, rfl, by omega, by omega, HN⟩, by simp [intOf]⟩
              · go_wp2
                exact ⟨⟨2, rfl, by omega, by omega, HN⟩, by simp [intOf]⟩
          · obtain rfl : q = 2 := by omega
            go_wp2
            go_ret
            exact ⟨rfl, XW.out⟩

end Go.Proofs.Ytcmifojplgmgkaa.P
