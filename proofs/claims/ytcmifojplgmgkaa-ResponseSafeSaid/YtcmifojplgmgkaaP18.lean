-- written by wip/drive.py (a driver of this session's own over the kit's print.py)
import Derived.Maps.OwnOps
import Derived.Maps.OwnSet
import Derived.Maps.Views
import Derived.DeepKeys4
import Derived.Test.YtcmifojplgmgkaaP0
import Derived.Test.YtcmifojplgmgkaaP3
import Derived.Test.YtcmifojplgmgkaaP5
import Derived.Test.YtcmifojplgmgkaaP8
import Derived.Test.YtcmifojplgmgkaaP10
import Derived.Test.YtcmifojplgmgkaaP12
import Derived.Test.YtcmifojplgmgkaaP16
import Derived.Test.YtcmifojplgmgkaaP17
namespace Go.Proofs.Ytcmifojplgmgkaa.P
open Go.RowKit Go.Proofs.YtcmifojplgmgkaaW.PrintWords Go.Proofs.YtcmifojplgmgkaaW.PrintLast Go.Proofs.YtcmifojplgmgkaaW.PrintMore
attribute [local go_sem] max2_int min2_int max_two min_two max_three min_three max_four min_four   -- for this text's walks alone
set_option linter.unusedVariables false
set_option linter.unusedSimpArgs false

-- PLUG
/-! ### ontimelaw44_ResponseSafe (function 3): by hand: a map keyed by an array; one way -/
theorem saf_laid : laidOutB Try.prog = true := by kernel_rfl
theorem saf_row : (35 : TypeId) < Try.prog.types.size := of_decide_eq_true (by kernel_rfl)
theorem saf_arr : Try.prog.underlying 35 = some (.array 2 3) := by kernel_rfl
theorem saf_map : Try.prog.underlying 32 = some (.map 35 4) := by kernel_rfl
theorem saf_wide : (match Try.prog.underlying 35 with | some (.array _ _) | some (.struct _) => true | _ => false) = true := by rw [saf_arr]
set_option maxRecDepth 100000 in
theorem saf_deep : WideMaps.KeyLaw Try.prog 35 := deep_law_laid saf_laid (m := 2) (by omega) saf_row (by kernel_rfl) saf_wide
theorem saf_law : Maps.Keyed Try.prog 35 := Maps.Keyed.of_law saf_deep
theorem saf_zero (w : World) : (zeroValue 4).run Try.prog w = .ok (.bool false) w := by kernel_rfl
theorem saf_cells35 : Try.prog.cellsOf 35 = 2 := by kernel_rfl
theorem saf_cells3 : Try.prog.cellsOf 3 = 1 := by kernel_rfl
theorem saf_key : Try.prog.keyType 35 = true := by kernel_rfl
theorem saf_size : ∃ n, Try.prog.types.size + 1 = n + 2 := ⟨Try.prog.types.size - 1, by have := (show (35 : Nat) < Try.prog.types.size from saf_row); omega⟩
/-- The key of a job. -/
def jobKey (a b : Int) : Lit := .string (keyBytes [.int .i64 a, .int .i64 b])
theorem job_key {a b : Int} (ha : (Lit.int .i64 a).wf = true) (hb : (Lit.int .i64 b).wf = true) : keyOf Try.prog 35 (.agg #[.int .i64 a, .int .i64 b]) = some (jobKey a b) := by
  unfold keyOf
  rw [saf_arr]
  have hf : (Value.agg #[.int .i64 a, .int .i64 b]).formed Try.prog 35 = true := by simp [Value.formed, saf_arr, saf_cells35]
  simp only [saf_key, hf]
  obtain ⟨n, hn⟩ := saf_size
  rw [hn]
  simp [Value.cells, Program.keyLits, saf_arr, saf_cells35, saf_cells3, Try.underlying3, ha, hb, List.range_succ, jobKey]
theorem job_key_inj {a b c d : Int} (ha : (Lit.int .i64 a).wf = true) (hb : (Lit.int .i64 b).wf = true) (hc : (Lit.int .i64 c).wf = true) (hd : (Lit.int .i64 d).wf = true) (h : jobKey a b = jobKey c d) : a = c ∧ b = d := by
  have h1 := job_key ha hb
  rw [h] at h1
  have h2 := saf_law.inj h1 (job_key hc hd)
  injection h2 with h2
  simpa using h2
def putJ (D : DataW Unit) (j : S34) : DataW Unit := D.put (jobKey j.f0 j.f1) (.lit (.bool true))
def doneD (jobs : List S34) : DataW Unit := jobs.foldl putJ (.map [])
theorem done_fold (i x : Int) : ∀ (jobs : List S34) (D : DataW Unit), Maps.IsMap D → (D.atKey (jobKey i x) (.lit (.bool false)) = .lit (.bool true) ∨ ∃ j ∈ jobs, j.f0 = i ∧ j.f1 = x) → (jobs.foldl putJ D).atKey (jobKey i x) (.lit (.bool false)) = .lit (.bool true)
  | [], D, _, h => by
    rcases h with h | ⟨j, hj, _⟩
    · exact h
    · cases hj
  | j :: r, D, hD, h => by
    rw [List.foldl_cons]
    refine done_fold i x r _ (hD.put _ _) ?_
    by_cases hk : jobKey j.f0 j.f1 = jobKey i x
    · refine .inl ?_
      unfold putJ
      rw [hk]
      exact Maps.atKey_put_same hD (show WideAt.IsKeyLit (jobKey i x) from trivial) _ _
    · have e : (putJ D j).atKey (jobKey i x) (.lit (.bool false)) = D.atKey (jobKey i x) (.lit (.bool false)) := Maps.atKey_put_other (fun h => hk h.symm) _ _
      rw [e]
      rcases h with h | ⟨j', hj', h1, h2⟩
      · exact .inl h
      · rcases List.mem_cons.1 hj' with rfl | hj'
        · exact absurd (by rw [h1, h2]) hk
        · exact .inr ⟨j', hj', h1, h2⟩
theorem elem_true {v : Value} {ps : List MemPlace} (h : plainElem (H := Unit) Try.prog 4 v = some (.lit (.bool true), ps)) : v = .bool true := by
  have h4 := Try.underlying4
  generalize Try.prog = P at h h4
  unfold plainElem at h
  rw [h4] at h
  cases v <;> simp at h
  rw [h.1]
theorem look_done {W : World} {b n : Nat} {jobs : List S34} (h : W.ownsMap Try.prog 35 (plainElem (H := Unit) Try.prog 4) b n (doneD jobs)) {i x : Int} (hi : (Lit.int .i64 i).wf = true) (hx : (Lit.int .i64 x).wf = true) (hj : ∃ j ∈ jobs, j.f0 = i ∧ j.f1 = x) :
    (Instr.lookup 32 (.map (some b)) (.agg #[.int .i64 i, .int .i64 x]) false).run Try.prog W = .ok (.bool true) W := by
  obtain ⟨v, ps, hrun, hv⟩ := h.lookup saf_law saf_map (saf_zero W) (plainElem_bool Try.underlying4 false) (job_key hi hx)
  rw [show (doneD jobs).atKey (jobKey i x) (.lit (.bool false)) = .lit (.bool true) from done_fold i x jobs _ Maps.isMap_empty (.inr hj)] at hv
  rw [hrun, elem_true hv]
/-- What loop 1 asks of a job. -/
def safeJ (k : Nat) (l : List S49) (j : S34) : Bool := decide (0 ≤ j.f0 ∧ j.f0 < l.length ∧ 0 ≤ j.f1 ∧ j.f1 ≤ 1000000 ∧ 0 ≤ j.f3 ∧ j.f3 ≤ 1000000) && match response_Response.f k l j.f0 with
  | some r => decide (r.2 = 0 → j.f3 - j.f1 ≤ r.1)
  | none => false
/-- What loop 2 asks of a task's releases. -/
def safeI (k : Nat) (l : List S49) (jobs : List S34) (i : Nat) (ts : List Int) : Bool := match response_Response.f k l (i : Int) with
  | some r => decide (0 ≤ r.1 ∧ r.1 ≤ 1000000 ∧ ts.length ≤ 1000000) && ts.all fun x => decide (0 ≤ x ∧ x ≤ 1000000) && (decide (¬ r.2 = 0) || decide (500 < x + r.1) || jobs.any fun j => j.f0 == (i : Int) && j.f1 == x)
  | none => false
def safeOk (k : Nat) (l : List S49) (rel : List (List Int)) (jobs : List S34) : Bool := decide (jobs.length ≤ 1000000 ∧ rel.length ≤ 1000000) && jobs.all (safeJ k l) && (List.range rel.length).all fun i => safeI k l jobs i (rel.getD i [])
def ontimelaw44_ResponseSafe.f (k : Nat) (l0 : List S49) (l1 l2 : List Int) : Option Bool :=
  (ontimelaw44_awake.f k).bind fun t => if t = true then ((ontimelaw44_great.f k l0).bind fun g => if g = true then some true else if 6 < (l0.length : Int) then some true else
    (ceiling_Valid.f k l0).bind fun v => if v = true then (if 100 < (l2.length : Int) then some true else
      (ontimelaw44_releases.f k l0 l1 l2).bind fun rel => (ceiling_Simulate.f k l0 rel 500).bind fun r => if r.2 = 0 then (if safeOk k l0 rel r.1 = true then some true else none) else none) else some true) else none
section
variable (k : Nat) (A0 : Option Addr) (c0 : Nat) (l0 : List (S49)) (A1 : Option Addr) (c1 : Nat) (l1 : List Int) (A2 : Option Addr) (c2 : Nat) (l2 : List Int) (w : World) (hr0 : Kd.C k49 w A0 l0.length l0) (hc0 : l0.length ≤ c0)
include hr0 hc0
set_option maxHeartbeats 8000000 in
set_option maxRecDepth 100000 in
theorem saf_great (h1 : ontimelaw44_awake.f k = some true) (h2 : ontimelaw44_great.f k l0 = some true) :
    Calls Try.prog 3 #[.slice A0 l0.length c0, .slice A1 l1.length c1, .slice A2 l2.length c2] w fun e w' => e = .returned (.bool true) ∧ Below w.heap.size w w' := by
  have HR := Aside0.mk hr0
  have HC := Aside0.mk hc0
  have Q1 := Aside0.mk h1
  have Q2 := Aside0.mk h2
  clear hr0 hc0 h1 h2
  go_enter Try.func3, Try.ntmps3
  go_wp2_with fail
  refine (ontimelaw44_awake.calls k true w Q1.out).mono ?_
  rintro e w1 ⟨rfl, hb1⟩
  have HB1 := Aside0.mk hb1
  clear hb1
  go_wp2_with fail
  refine (ontimelaw44_great.calls k A0 c0 l0 true w1 (Kd.C_below HR.out HB1.out) HC.out Q2.out).mono ?_
  rintro e w2 ⟨rfl, hb2⟩
  have HB2 := Aside0.mk (below_step HB1.out hb2)
  clear hb2
  go_wp2
  go_ret
  exact ⟨rfl, HB2.out⟩
set_option maxHeartbeats 8000000 in
set_option maxRecDepth 100000 in
theorem saf_many (h1 : ontimelaw44_awake.f k = some true) (h2 : ontimelaw44_great.f k l0 = some false) (h3 : 6 < (l0.length : Int)) :
    Calls Try.prog 3 #[.slice A0 l0.length c0, .slice A1 l1.length c1, .slice A2 l2.length c2] w fun e w' => e = .returned (.bool true) ∧ Below w.heap.size w w' := by
  have HR := Aside0.mk hr0
  have HC := Aside0.mk hc0
  have Q1 := Aside0.mk h1
  have Q2 := Aside0.mk h2
  clear hr0 hc0 h1 h2
  go_enter Try.func3, Try.ntmps3
  go_wp2_with fail
  refine (ontimelaw44_awake.calls k true w Q1.out).mono ?_
  rintro e w1 ⟨rfl, hb1⟩
  have HB1 := Aside0.mk hb1
  clear hb1
  go_wp2_with fail
  refine (ontimelaw44_great.calls k A0 c0 l0 false w1 (Kd.C_below HR.out HB1.out) HC.out Q2.out).mono ?_
  rintro e w2 ⟨rfl, hb2⟩
  have HB2 := Aside0.mk (below_step HB1.out hb2)
  clear hb2
  go_wp2
  go_ret
  exact ⟨rfl, HB2.out⟩
set_option maxHeartbeats 8000000 in
set_option maxRecDepth 100000 in
theorem saf_bad (v : Bool) (h1 : ontimelaw44_awake.f k = some true) (h2 : ontimelaw44_great.f k l0 = some false) (h3 : ¬ 6 < (l0.length : Int)) (h4 : ceiling_Valid.f k l0 = some v) (h5 : v = true → 100 < (l2.length : Int)) :
    Calls Try.prog 3 #[.slice A0 l0.length c0, .slice A1 l1.length c1, .slice A2 l2.length c2] w fun e w' => e = .returned (.bool true) ∧ Below w.heap.size w w' := by
  have HR := Aside0.mk hr0
  have HC := Aside0.mk hc0
  have Q1 := Aside0.mk h1
  have Q2 := Aside0.mk h2
  have Q4 := Aside0.mk h4
  have Q5 := Aside0.mk h5
  clear hr0 hc0 h1 h2 h4 h5
  go_enter Try.func3, Try.ntmps3
  go_wp2_with fail
  refine (ontimelaw44_awake.calls k true w Q1.out).mono ?_
  rintro e w1 ⟨rfl, hb1⟩
  have HB1 := Aside0.mk hb1
  clear hb1
  go_wp2_with fail
  refine (ontimelaw44_great.calls k A0 c0 l0 false w1 (Kd.C_below HR.out HB1.out) HC.out Q2.out).mono ?_
  rintro e w2 ⟨rfl, hb2⟩
  have HB2 := Aside0.mk (below_step HB1.out hb2)
  clear hb2
  go_wp2_with fail
  refine (ceiling_Valid.calls k A0 c0 l0 v w2 (Kd.C_below HR.out HB2.out) HC.out Q4.out).mono ?_
  rintro e w3 ⟨rfl, hb3⟩
  have HB3 := Aside0.mk (below_step HB2.out hb3)
  clear hb3
  cases v with
  | false =>
    go_wp2
    go_ret
    exact ⟨rfl, HB3.out⟩
  | true =>
    have h5 := Q5.out (by simp)
    go_wp2
    go_ret
    exact ⟨rfl, HB3.out⟩
end
theorem rd_mem {l : List Int} {i : Int} (h0 : 0 ≤ i) (h1 : i < l.length) : rd l i ∈ l := by
  unfold rd
  rw [List.getD_eq_getElem?_getD, List.getElem?_eq_getElem (show i.toNat < l.length by omega)]
  exact List.getElem_mem _
structure SW (wb wr : World) (mm n : Nat) (D : DataW Unit) : Prop where
  b : Below wb.heap.size wb wr
  m : wr.ownsMap Try.prog 35 (plainElem (H := Unit) Try.prog 4) mm n D
theorem SW.step {wb wr w2 : World} {mm n : Nat} {D : DataW Unit} (h : SW wb wr mm n D) (hb : Below wr.heap.size wr w2) : SW wb w2 mm n D := ⟨below_step h.b hb, map_below h.m hb⟩
theorem take34 {l : List S34} {i : Int} (h0 : 0 ≤ i) (h1 : i < l.length) : l.take (i + 1).toNat = l.take i.toNat ++ [rd_T34 l i] ∧ rd_T34 l i ∈ l := by
  have hl : i.toNat < l.length := by omega
  have e : rd_T34 l i = l[i.toNat] := by
    unfold rd_T34
    rw [List.getD_eq_getElem?_getD, List.getElem?_eq_getElem hl]
    rfl
  rw [e, show (i + 1).toNat = i.toNat + 1 by omega, List.take_succ_eq_append_getElem hl]
  exact ⟨rfl, List.getElem_mem _⟩
def JobOk (k : Nat) (l : List S49) (j : S34) : Prop := 0 ≤ j.f0 ∧ j.f0 < l.length ∧ 0 ≤ j.f1 ∧ j.f1 ≤ 1000000 ∧ 0 ≤ j.f3 ∧ j.f3 ≤ 1000000 ∧ ∃ r e, response_Response.f k l j.f0 = some (r, e) ∧ (e = 0 → j.f3 - j.f1 ≤ r)
def RelOk (k : Nat) (l : List S49) (jobs : List S34) (i : Int) (ts : List Int) : Prop := ∃ r e, response_Response.f k l i = some (r, e) ∧ 0 ≤ r ∧ r ≤ 1000000 ∧ ts.length ≤ 1000000 ∧ ∀ x ∈ ts, 0 ≤ x ∧ x ≤ 1000000 ∧ (¬ e = 0 ∨ 500 < x + r ∨ ∃ j ∈ jobs, j.f0 = i ∧ j.f1 = x)
theorem safe_jobs {k : Nat} {l : List S49} {j : S34} (h : safeJ k l j = true) : JobOk k l j := by
  unfold safeJ at h
  rw [Bool.and_eq_true] at h
  obtain ⟨h1, h2⟩ := h
  obtain ⟨a, b, c, d, e, f⟩ := of_decide_eq_true h1
  refine ⟨a, b, c, d, e, f, ?_⟩
  cases hr : response_Response.f k l j.f0 with
  | none => rw [hr] at h2; cases h2
  | some r =>
    rw [hr] at h2
    exact ⟨r.1, r.2, rfl, of_decide_eq_true h2⟩
theorem safe_rel {k : Nat} {l : List S49} {jobs : List S34} {i : Nat} {ts : List Int} (h : safeI k l jobs i ts = true) : RelOk k l jobs (i : Int) ts := by
  unfold safeI at h
  cases hr : response_Response.f k l (i : Int) with
  | none => rw [hr] at h; cases h
  | some r =>
    rw [hr] at h
    rw [Bool.and_eq_true] at h
    obtain ⟨h1, h2⟩ := h
    obtain ⟨a, b, c⟩ := of_decide_eq_true h1
    refine ⟨r.1, r.2, hr, a, b, c, fun x hx => ?_⟩
    have h3 := List.all_eq_true.1 h2 x hx
    rw [Bool.and_eq_true, Bool.or_eq_true, Bool.or_eq_true] at h3
    obtain ⟨h4, h5⟩ := h3
    obtain ⟨d, e⟩ := of_decide_eq_true h4
    refine ⟨d, e, ?_⟩
    rcases h5 with (h5 | h5) | h5
    · exact .inl (of_decide_eq_true h5)
    · exact .inr (.inl (of_decide_eq_true h5))
    · obtain ⟨j, hj, h6⟩ := List.any_eq_true.1 h5
      rw [Bool.and_eq_true, beq_iff_eq, beq_iff_eq] at h6
      exact .inr (.inr ⟨j, hj, h6.1, h6.2⟩)
section
variable (k : Nat) (A0 : Option Addr) (c0 : Nat) (l0 : List (S49)) (A1 : Option Addr) (c1 : Nat) (l1 : List Int) (A2 : Option Addr) (c2 : Nat) (l2 : List Int) (w : World) (hr0 : Kd.C k49 w A0 l0.length l0) (hc0 : l0.length ≤ c0)
  (hr1 : Kd.C (Kd.int .u8) w A1 l1.length l1) (hc1 : l1.length ≤ c1) (hr2 : Kd.C (Kd.int .u8) w A2 l2.length l2) (hc2 : l2.length ≤ c2)
include hr0 hc0 hr1 hc1 hr2 hc2
set_option maxHeartbeats 8000000 in
set_option maxRecDepth 100000 in
theorem saf_main (rel : List (List Int)) (jobs : List S34) (h1 : ontimelaw44_awake.f k = some true) (h2 : ontimelaw44_great.f k l0 = some false) (h3 : ¬ 6 < (l0.length : Int)) (h4 : ceiling_Valid.f k l0 = some true) (h5 : ¬ 100 < (l2.length : Int))
    (h6 : ontimelaw44_releases.f k l0 l1 l2 = some rel) (h7 : ceiling_Simulate.f k l0 rel 500 = some (jobs, 0)) (h8 : jobs.length ≤ 1000000) (h9 : rel.length ≤ 1000000) (h10 : ∀ j ∈ jobs, JobOk k l0 j) (h11 : ∀ i : Nat, i < rel.length → RelOk k l0 jobs (i : Int) (rel.getD i [])) :
    Calls Try.prog 3 #[.slice A0 l0.length c0, .slice A1 l1.length c1, .slice A2 l2.length c2] w fun e w' => e = .returned (.bool true) ∧ Below w.heap.size w w' := by
  have hu34 := Try.underlying34
  have hmm := @run_makeMap Try.prog
  have HR := Aside0.mk hr0
  have HC := Aside0.mk hc0
  have HR1 := Aside0.mk hr1
  have HC1 := Aside0.mk hc1
  have HR2 := Aside0.mk hr2
  have HC2 := Aside0.mk hc2
  have Q1 := Aside0.mk h1
  have Q2 := Aside0.mk h2
  have Q4 := Aside0.mk h4
  have Q6 := Aside0.mk h6
  have Q7 := Aside0.mk h7
  have Q8 := Aside0.mk h8
  have Q9 := Aside0.mk h9
  have Q10 := Aside0.mk h10
  have Q11 := Aside0.mk h11
  clear hr0 hc0 hr1 hc1 hr2 hc2 h1 h2 h4 h6 h7 h8 h9 h10 h11
  go_enter Try.func3, Try.ntmps3
  go_wp2_with fail
  refine (ontimelaw44_awake.calls k true w Q1.out).mono ?_
  rintro e w1 ⟨rfl, hb1⟩
  have HB1 := Aside0.mk hb1
  clear hb1
  go_wp2_with fail
  refine (ontimelaw44_great.calls k A0 c0 l0 false w1 (Kd.C_below HR.out HB1.out) HC.out Q2.out).mono ?_
  rintro e w2 ⟨rfl, hb2⟩
  have HB2 := Aside0.mk (below_step HB1.out hb2)
  clear hb2
  go_wp2_with fail
  refine (ceiling_Valid.calls k A0 c0 l0 true w2 (Kd.C_below HR.out HB2.out) HC.out Q4.out).mono ?_
  rintro e w3 ⟨rfl, hb3⟩
  have HB3 := Aside0.mk (below_step HB2.out hb3)
  clear hb3 HB1 HB2
  go_wp2_with fail
  refine (ontimelaw44_releases.calls k A0 c0 l0 A1 c1 l1 A2 c2 l2 rel w3 (Kd.C_below HR.out HB3.out) HC.out (Kd.C_below HR1.out HB3.out) HC1.out (Kd.C_below HR2.out HB3.out) HC2.out Q6.out).mono ?_
  rintro e w4 ⟨vm, rfl, hm, hb⟩
  obtain ⟨Am, cm, rfl, hcm, hcM⟩ := Kd.S_reads hm
  have HS4 := Aside0.mk hcM
  have HCS := Aside0.mk hcm
  have HB4 := Aside0.mk (below_step HB3.out hb)
  clear hb hm hcM hcm HB3
  go_wp2_with fail
  refine (ceiling_Simulate.calls k A0 c0 l0 Am cm rel 500 jobs 0 w4 (Kd.C_below HR.out HB4.out) HC.out HS4.out HCS.out Q7.out).mono ?_
  rintro e wb ⟨vj, rfl, hj, hb⟩
  obtain ⟨A7, c7, rfl, _, _⟩ := Kd.R_reads hj
  have HJ := Aside0.mk (Kd.R_reads' hj).2.2
  have HB5 := Aside0.mk (below_step HB4.out hb)
  clear hb hj HB4 HS4 HCS
  go_wp2_with fail
  have HSW : Aside0 (SW wb (wb.alloc (.map #[] 0)) wb.heap.size 0 (.map [])) := ⟨⟨(Below.refl _ _).alloc (Nat.le_refl _) _, World.ownsMap_made wb Try.prog 35 (plainElem (H := Unit) Try.prog 4)⟩⟩
  obtain ⟨mm, hmm2⟩ : ∃ mm, mm = wb.heap.size := ⟨_, rfl⟩
  have HMM := Aside0.mk hmm2
  rw [← hmm2] at HSW ⊢
  clear hmm2
  go_loopw [53] (fun v53 wr => ∃ (i : Int), v53 = .int .i64 i ∧ 0 ≤ i ∧ i ≤ jobs.length ∧ Aside0 (SW wb wr mm i.toNat (doneD (jobs.take i.toNat)))) (fun v _ => jobs.length - (intOf v).toNat)
  case atStart => exact ⟨0, rfl, by omega, by omega, HSW⟩
  case round =>
    clear HSW
    obtain ⟨i, rfl, i0, i1, HT⟩ := hrel
    by_cases hi : i < jobs.length
    · have hjl := Q8.out
      obtain ⟨ad, hA, y0, y1, y2, y3, y4⟩ := at_T34 (Kd.C_below HJ.out HT.out.b) i i0 hi
      subst hA
      obtain ⟨htk, hmem⟩ := take34 i0 hi
      obtain ⟨d1, d2, d3, d4, d5, d6, r, e, hr, hre⟩ := Q10.out _ hmem
      have HTK := Aside0.mk htk
      generalize rd_T34 jobs i = j at y0 y1 y2 y3 y4 d1 d2 d3 d4 d5 d6 hr hre HTK
      have HRR := Aside0.mk hr
      have hkey := job_key (wf64 (x := j.f0) (by omega) (by omega)) (wf64 (x := j.f1) (by omega) (by omega))
      have hown := HT.out.m.alloc (.cells #[.int .i64 j.f0, .int .i64 j.f1, .int .i64 j.f2, .int .i64 j.f3, .int .i64 j.f4] 34)
      have hnl : i.toNat < maxLen := by unfold maxLen; omega
      clear htk hmem hr
      go_wp2_with (first
        | (at_mapUpdate; refine wpList_mapUpdate_own _ rfl _ _ _ 32 rfl 35 4 saf_law saf_map _ mm i.toNat _ rfl hown hnl _ _ (jobKey j.f0 j.f1) rfl rfl hkey (.lit (.bool true)) [] (plainElem_bool Try.underlying4 true) ?_; intro w7 hown7 hgrow7; have HT7 : Aside0 (SW wb w7 mm (i.toNat + 1) (putJ (doneD (jobs.take i.toNat)) j)) := ⟨⟨(HT.out.b.alloc HT.out.b.size _).grown hgrow7 (Nat.le_trans HT.out.b.size (by simp)) (fun k hk => by injection hk with hk; rw [← hk, HMM.out]; exact Nat.le_refl _), hown7⟩⟩; have z0 : w7.cell? ⟨wr.heap.size, 0, none⟩ = some (.int .i64 j.f0) := hgrow7.cell (World.cell?_alloc_new _ _ _ 0) (fun e => Nat.ne_of_gt HT.out.m.lt (by injection e)); have z1 : w7.cell? ⟨wr.heap.size, 1, none⟩ = some (.int .i64 j.f1) := hgrow7.cell (World.cell?_alloc_new _ _ _ 1) (fun e => Nat.ne_of_gt HT.out.m.lt (by injection e)); have z3 : w7.cell? ⟨wr.heap.size, 3, none⟩ = some (.int .i64 j.f3) := hgrow7.cell (World.cell?_alloc_new _ _ _ 3) (fun e => Nat.ne_of_gt HT.out.m.lt (by injection e)); clear hown7 hgrow7)
        | (go_at_call 23; refine (response_Response.calls k A0 c0 l0 j.f0 r e w7 (Kd.C_below HR.out (below_step HB5.out HT7.out.b)) HC.out HRR.out).mono ?_; rintro e9 w8 ⟨rfl, hb8⟩; have HT8 := Aside0.mk (HT7.out.step hb8); replace z0 := pw_cell_below hb8 z0; replace z1 := pw_cell_below hb8 z1; replace z3 := pw_cell_below hb8 z3; clear hb8))
      all_goals
        refine ⟨⟨i + 1, rfl, by omega, by omega, ⟨?_⟩⟩, by simp [intOf]; omega⟩
        have h8 := HT8.out
        rw [show i.toNat + 1 = (i + 1).toNat by omega] at h8
        rw [HTK.out, doneD, List.foldl_append]
        exact h8
    · have hie : i.toNat = jobs.length := by omega
      have hT := HT.out
      rw [hie, List.take_length] at hT
      have HW := Aside0.mk hT
      clear hT HT hie
      go_wp2_with fail
      refine (ontimelaw44_releases.calls k A0 c0 l0 A1 c1 l1 A2 c2 l2 rel wr (Kd.C_below HR.out (below_step HB5.out HW.out.b)) HC.out (Kd.C_below HR1.out (below_step HB5.out HW.out.b)) HC1.out (Kd.C_below HR2.out (below_step HB5.out HW.out.b)) HC2.out Q6.out).mono ?_
      rintro e w6 ⟨vm, rfl, hm, hb⟩
      obtain ⟨Am2, cm2, rfl, hcm, hcM⟩ := Kd.S_reads hm
      have HS6 := Aside0.mk hcM
      have HW6 := Aside0.mk (HW.out.step hb)
      clear hb hm hcM hcm HW hi i0 i1
      obtain ⟨wo, rfl⟩ : ∃ wo : World, wo = w6 := ⟨_, rfl⟩
      go_wp2_with fail
      go_loopw [97] (fun v97 wr => ∃ (i : Int), v97 = .int .i64 i ∧ 0 ≤ i ∧ i ≤ rel.length ∧ Aside0 (Below wo.heap.size wo wr)) (fun v _ => rel.length - (intOf v).toNat)
      case atStart => exact ⟨0, rfl, by omega, by omega, ⟨Below.refl _ _⟩⟩
      case round =>
        obtain ⟨i, rfl, i0, i1, HB⟩ := hrel
        by_cases hi : i < rel.length
        · have hrl := Q9.out
          obtain ⟨ad2, A4, c4, hA, z0, _, hzi⟩ := at_L5 HS6.out i i0 hi
          subst hA
          replace z0 := (HB.out.cell (World.block_lt_of_cell? wo _ z0)).trans z0
          obtain ⟨r, e, hr, r0, r1, hln, hxs⟩ := Q11.out i.toNat (by omega)
          rw [Int.toNat_of_nonneg i0] at hr hxs
          have hgl : rel.getD i.toNat [] = rd_L5 rel i := rfl
          rw [hgl] at hln hxs
          generalize rd_L5 rel i = ts at z0 hzi hln hxs
          have HZI := Aside0.mk hzi
          have HXS := Aside0.mk hxs
          have HRR := Aside0.mk hr
          clear hr hxs hgl hzi
          go_wp2_with (go_at_call 23; refine (response_Response.calls k A0 c0 l0 i r e wr (Kd.C_below HR.out (below_step HB5.out (HW6.out.step HB.out).b)) HC.out HRR.out).mono ?_; rintro e9 w8 ⟨rfl, hb8⟩; have HB8 := Aside0.mk (below_step HB.out hb8); clear hb8)
          go_loopw [110] (fun v110 wr => ∃ (q : Int), v110 = .int .i64 q ∧ 0 ≤ q ∧ q ≤ ts.length ∧ Aside0 (Below wo.heap.size wo wr)) (fun v _ => ts.length - (intOf v).toNat)
          case atStart => exact ⟨0, rfl, by omega, by omega, HB8⟩
          case round =>
            obtain ⟨q, rfl, q0, q1, HB⟩ := hrel
            by_cases hq : q < ts.length
            · obtain ⟨ad3, hA, y0⟩ := Kd.at_int HZI.out q q0 hq
              subst hA
              replace y0 := (HB.out.cell (World.block_lt_of_cell? wo _ y0)).trans y0
              have hmem : rd ts q ∈ ts := rd_mem q0 hq
              obtain ⟨x0, x1, hx⟩ := HXS.out _ hmem
              generalize rd ts q = x at y0 x0 x1 hx
              clear hmem
              by_cases h0 : e = 0
              · by_cases h5 : x + r ≤ 500
                · have hj : ∃ j ∈ jobs, j.f0 = i ∧ j.f1 = x := by
                    rcases hx with hx | hx | hx
                    · exact absurd h0 hx
                    · omega
                    · exact hx
                  have hlk := look_done (HW6.out.step HB.out).m (wf64 (x := i) (by omega) (by omega)) (wf64 (x := x) (by omega) (by omega)) hj
                  clear hx hj
                  go_wp2_with fail
                  exact ⟨⟨q + 1, rfl, by omega, by omega, HB⟩, by simp [intOf]; omega⟩
                · clear hx
                  go_wp2_with fail
                  exact ⟨⟨q + 1, rfl, by omega, by omega, HB⟩, by simp [intOf]; omega⟩
              · clear hx
                go_wp2_with fail
                exact ⟨⟨q + 1, rfl, by omega, by omega, HB⟩, by simp [intOf]; omega⟩
            · go_wp2_with fail
              exact ⟨⟨i + 1, rfl, by omega, by omega, HB⟩, by simp [intOf]; omega⟩
        · go_wp2
          go_ret
          exact ⟨rfl, below_step HB5.out (HW6.out.step HB.out).b⟩
end
theorem ontimelaw44_ResponseSafe.calls (k : Nat) (A0 : Option Addr) (c0 : Nat) (l0 : List (S49)) (A1 : Option Addr) (c1 : Nat) (l1 : List Int) (A2 : Option Addr) (c2 : Nat) (l2 : List Int) (r : Bool) (w : World) (hr0 : Kd.C k49 w A0 l0.length l0) (hc0 : l0.length ≤ c0)
    (hr1 : Kd.C (Kd.int .u8) w A1 l1.length l1) (hc1 : l1.length ≤ c1) (hr2 : Kd.C (Kd.int .u8) w A2 l2.length l2) (hc2 : l2.length ≤ c2) (h : ontimelaw44_ResponseSafe.f k l0 l1 l2 = some r) :
    Calls Try.prog 3 #[.slice A0 l0.length c0, .slice A1 l1.length c1, .slice A2 l2.length c2] w fun e w' => e = .returned (.bool r) ∧ Below w.heap.size w w' := by
  unfold ontimelaw44_ResponseSafe.f at h
  obtain ⟨t, h1, h⟩ := Option.bind_eq_some_iff.mp h
  cases t with
  | false => rw [if_neg (by simp)] at h; cases h
  | true =>
  rw [if_pos rfl] at h
  obtain ⟨g, h2, h⟩ := Option.bind_eq_some_iff.mp h
  cases g with
  | true =>
    rw [if_pos rfl] at h
    obtain rfl := Option.some.inj h
    exact saf_great k A0 c0 l0 A1 c1 l1 A2 c2 l2 w hr0 hc0 h1 h2
  | false =>
  rw [if_neg (by simp)] at h
  by_cases h3 : 6 < (l0.length : Int)
  · rw [if_pos h3] at h
    obtain rfl := Option.some.inj h
    exact saf_many k A0 c0 l0 A1 c1 l1 A2 c2 l2 w hr0 hc0 h1 h2 h3
  rw [if_neg h3] at h
  obtain ⟨v, h4, h⟩ := Option.bind_eq_some_iff.mp h
  cases v with
  | false =>
    rw [if_neg (by simp)] at h
    obtain rfl := Option.some.inj h
    exact saf_bad k A0 c0 l0 A1 c1 l1 A2 c2 l2 w hr0 hc0 false h1 h2 h3 h4 (fun hh => by cases hh)
  | true =>
  rw [if_pos rfl] at h
  by_cases h5 : 100 < (l2.length : Int)
  · rw [if_pos h5] at h
    obtain rfl := Option.some.inj h
    exact saf_bad k A0 c0 l0 A1 c1 l1 A2 c2 l2 w hr0 hc0 true h1 h2 h3 h4 (fun _ => h5)
  rw [if_neg h5] at h
  obtain ⟨rel, h6, h⟩ := Option.bind_eq_some_iff.mp h
  obtain ⟨⟨jobs, e⟩, h7, h⟩ := Option.bind_eq_some_iff.mp h
  by_cases he : e = 0
  case neg => rw [if_neg he] at h; cases h
  subst he
  rw [if_pos rfl] at h
  by_cases hk : safeOk k l0 rel jobs = true
  case neg => rw [if_neg hk] at h; cases h
  rw [if_pos hk] at h
  obtain rfl := Option.some.inj h
  unfold safeOk at hk
  rw [Bool.and_eq_true, Bool.and_eq_true] at hk
  obtain ⟨⟨g1, g2⟩, g3⟩ := hk
  obtain ⟨g4, g5⟩ := of_decide_eq_true g1
  exact saf_main k A0 c0 l0 A1 c1 l1 A2 c2 l2 w hr0 hc0 hr1 hc1 hr2 hc2 rel jobs h1 h2 h3 h4 h5 h6 h7 g4 g5 (fun j hj => safe_jobs (List.all_eq_true.1 g2 j hj)) (fun i hi => safe_rel (List.all_eq_true.1 g3 i (List.mem_range.2 hi)))

end Go.Proofs.Ytcmifojplgmgkaa.P
