/- The law PfairDeadlines holds for every input: its row, out of the contract of its function and the plain theorem Pure.PfairDeadlines. -/
import Derived.Test.YtpbogldeojnaeaaRows
import Derived.Test.YtpbogldeojnaeaaP16
import Derived.Test.YtpbogldeojnaeaaOpen
import Derived.Test.YtpbogldeojnaeaaPurePfairDeadlines
import Derived.WalkKit
import Derived.ProofKit
import Derived.OpenShut
import Derived.ShutString
import Derived.ChangeOld
import Derived.Below
import Derived.SizedLaws
namespace Go.Proofs.Ytpbogldeojnaeaa.pfairDeadlines
open Go.ChangeShapes Go.WideShapes Go.ChangeAt Go.RowKit Go.Proofs.YtpbogldeojnaeaaW.PrintWords Go.Proofs.YtpbogldeojnaeaaW.Opening Go.Proofs.Ytpbogldeojnaeaa.P
open Go.ChangeMaps (open_string shut_string)
set_option linter.unusedVariables false
theorem own : ownKnob Try.prog.godebug = none := by kernel_rfl
theorem laidOut : laidOutB Try.prog = true := by kernel_rfl
set_option maxRecDepth 100000 in
set_option maxHeartbeats 1000000 in
theorem lifted (os : Os) (started : os.Started) (H : Type) (enc : TypeId × Value → H) :
    ReturnsInHanded {} Try.checked os 10 .any (Rows.pfairDeadlinesSpec.pre6 enc Try.prog Try.f10 Rows.pfairDeadlinesRow.domain false) (Rows.pfairDeadlinesSpec.post enc Try.prog Try.f10 false true false false) := by
  refine returnsInHanded_of_change_sized (C := Try.checked) own started (by kernel_rfl) Try.func10
    (ChangeSpec.witness6 (enc := enc) (C := Try.checked) false ⟨#[], #[.agg #[.int .i64 0, .string ByteArray.empty, .int .i64 0, .int .i64 0, .int .i64 0, .int .i64 0], .agg #[.int .i64 0, .string ByteArray.empty, .int .i64 0, .int .i64 0, .int .i64 0, .int .i64 0]], []⟩ 8 (by kernel_rfl) (by kernel_rfl) (by kernel_rfl) (by kernel_rfl)) ?_
  intro W base args ds gs before hval0 hW hcnd hsz0 _
  have hsz : (DataW.weightsEach Try.prog (Try.f10.params.toList ++ Rows.pfairDeadlinesSpec.plain.varTypes Try.prog) (ds ++ gs)).all (· ≤ reachBytes) = true := hsz0
  have hval : ∀ (j : Nat) t v, Try.f10.params[j]? = some t → args[j]? = some v → Value.okWide Try.prog W .any base t v := hval0
  have hW' := hW
  obtain ⟨p, q, hA0, hV, rfl, hfz, hnd⟩ := hW
  have hA : DataW.TrodAll enc Try.prog W 0 (fun _ => true) true Try.f10.params.toList args.toList ds p := hA0
  rw [Try.params10] at hA hval hsz
  obtain ⟨v0, vs0, d0, ds0, p0, q0, hargs, rfl, rfl, h0, r0⟩ := trodAll_cons hA
  obtain ⟨v1, vs1, d1, ds1, p1, q1, rfl, rfl, rfl, h1, r1⟩ := trodAll_cons r0
  obtain ⟨rfl, rfl, rfl⟩ := trodAll_nil r1
  obtain rfl : args = #[v0, v1] := by cases args; simp_all
  obtain ⟨rfl, rfl⟩ := trodVars_none hV
  have k0 := h0
  have lt0 : ∀ x ∈ p0, x.block < W.heap.size := by obtain ⟨m, hm⟩ := k0; exact DataW.trod_lt m _ _ _ hm
  obtain ⟨x0, cs0, rfl, hk0, ho0⟩ := open_st (opens_st4 Try.underlying42 (by kernel_rfl) rfl (by kernel_rfl) (by kernel_rfl) (by kernel_rfl) (by kernel_rfl) (by kernel_rfl) (by kernel_rfl) (by kernel_rfl) (opens_int Try.underlying3) (opens_st3 Try.underlying23 (by kernel_rfl) rfl (by kernel_rfl) (by kernel_rfl) (by kernel_rfl) (by kernel_rfl) (by kernel_rfl) (opens_string Try.underlying9) (opens_int Try.underlying3) (opens_int Try.underlying3)) (opens_int Try.underlying3) (opens_int Try.underlying3)) Try.underlying42 (hval 0 42 v0 rfl rfl) h0
  obtain ⟨a0_0, ⟨⟨a0_1, ⟨a0_2, a0_3⟩⟩, ⟨a0_4, a0_5⟩⟩⟩ := x0
  obtain ⟨wa0_0, ⟨⟨wa0_1, ⟨wa0_2, wa0_3⟩⟩, ⟨wa0_4, wa0_5⟩⟩⟩ := ho0
  obtain ⟨_, _, rfl, rfl, ⟨_, _, rfl, ⟨_, _, rfl, rfl, ⟨_, _, rfl, rfl, rfl⟩⟩, ⟨_, _, rfl, rfl, rfl⟩⟩⟩ := hk0
  dsimp only at *
  have k1 := h1
  have lt1 : ∀ x ∈ p1, x.block < W.heap.size := by obtain ⟨m, hm⟩ := k1; exact DataW.trod_lt m _ _ _ hm
  obtain ⟨x1, cs1, rfl, hk1, ho1⟩ := open_st (opens_st4 Try.underlying42 (by kernel_rfl) rfl (by kernel_rfl) (by kernel_rfl) (by kernel_rfl) (by kernel_rfl) (by kernel_rfl) (by kernel_rfl) (by kernel_rfl) (opens_int Try.underlying3) (opens_st3 Try.underlying23 (by kernel_rfl) rfl (by kernel_rfl) (by kernel_rfl) (by kernel_rfl) (by kernel_rfl) (by kernel_rfl) (opens_string Try.underlying9) (opens_int Try.underlying3) (opens_int Try.underlying3)) (opens_int Try.underlying3) (opens_int Try.underlying3)) Try.underlying42 (hval 1 42 v1 rfl rfl) h1
  obtain ⟨a1_0, ⟨⟨a1_1, ⟨a1_2, a1_3⟩⟩, ⟨a1_4, a1_5⟩⟩⟩ := x1
  obtain ⟨wa1_0, ⟨⟨wa1_1, ⟨wa1_2, wa1_3⟩⟩, ⟨wa1_4, wa1_5⟩⟩⟩ := ho1
  obtain ⟨_, _, rfl, rfl, ⟨_, _, rfl, ⟨_, _, rfl, rfl, ⟨_, _, rfl, rfl, rfl⟩⟩, ⟨_, _, rfl, rfl, rfl⟩⟩⟩ := hk1
  dsimp only at *
  clear hA0 hval0 hsz0 hsz
  obtain ⟨k, h⟩ := Pure.PfairDeadlines a0_0 a0_1 a0_2 a0_3 a0_4 a0_5 a1_0 a1_1 a1_2 a1_3 a1_4 a1_5 wa0_0 wa0_1 wa0_2 wa0_3 wa0_4 wa0_5 wa1_0 wa1_1 wa1_2 wa1_3 wa1_4 wa1_5
  refine (ontimelaw45_PfairDeadlines.calls k a0_0 a0_1 a0_2 a0_3 a0_4 a0_5 a1_0 a1_1 a1_2 a1_3 a1_4 a1_5 true W  h).mono fun e W' ⟨he, bel⟩ => ?_
  subst he
  exact ⟨_, rfl, _, _, _, [], _, [], hW', trodAll_mk1 (shut_bool Try.underlying4 _), (trodAll_cons_mk (Below.trod laidOut (by kernel_rfl) (of_decide_eq_true (by kernel_rfl)) k0 bel lt0) (trodAll_cons_mk (Below.trod laidOut (by kernel_rfl) (of_decide_eq_true (by kernel_rfl)) k1 bel lt1) trodAll_mk0)), rfl, bel.frame _, fun h => by cases h⟩
theorem over : Rows.pfairDeadlinesRow.holds Try.pinned (OpenSpec.ofChange Rows.pfairDeadlinesSpec) :=
  OpenClaim.holds_of_wide 10 Try.f10 rfl rfl rfl rfl rfl rfl rfl ⟨rfl, rfl, rfl, rfl, rfl⟩ rfl rfl rfl rfl rfl (by kernel_rfl) Try.func10 (by kernel_rfl)
    (of_decide_eq_true (by kernel_rfl)) (by unfold Func.isWrapper; first | (rw [if_pos (by decide +kernel)]; kernel_rfl) | (rw [if_neg (by decide +kernel)]; exact ⟨rfl, rfl⟩))
    (fun os started H enc _ => lifted os started H enc)
theorem proved : Rows.PfairDeadlinesSaid := over
#print axioms proved
end Go.Proofs.Ytpbogldeojnaeaa.pfairDeadlines
namespace Go.Proofs.Ytpbogldeojnaeaa
/-- The row, under a short name, for the claim. -/
theorem pfairDeadlines_holds : Rows.PfairDeadlinesSaid := pfairDeadlines.proved
end Go.Proofs.Ytpbogldeojnaeaa