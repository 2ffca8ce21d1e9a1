/- The law CeilingSimulates holds for every input: its row, out of the contract of its function and the plain theorem Pure.CeilingSimulates. -/
import Derived.Test.YtcmifojplgmgkaaRows
import Derived.Test.YtcmifojplgmgkaaP34
import Derived.Test.YtcmifojplgmgkaaOpen
import Derived.Test.YtcmifojplgmgkaaPureCeilingSimulates
import Derived.WalkKit
import Derived.ProofKit
import Derived.OpenShut
import Derived.ShutString
import Derived.ChangeOld
import Derived.Below
import Derived.SizedLaws
namespace Go.Proofs.Ytcmifojplgmgkaa.ceilingSimulates
open Go.ChangeShapes Go.WideShapes Go.ChangeAt Go.RowKit Go.Proofs.YtcmifojplgmgkaaW.PrintWords Go.Proofs.YtcmifojplgmgkaaW.Opening Go.Proofs.Ytcmifojplgmgkaa.P
open Go.ChangeMaps (open_string shut_string)
set_option linter.unusedVariables false
theorem own : ownKnob Try.prog.godebug = none := by kernel_rfl
theorem laidOut : laidOutB Try.prog = true := by kernel_rfl
set_option maxRecDepth 100000 in
set_option maxHeartbeats 1000000 in
theorem lifted (os : Os) (started : os.Started) (H : Type) (enc : TypeId × Value → H) :
    ReturnsInHanded {} Try.checked os 11 .any (Rows.ceilingSimulatesSpec.pre6 enc Try.prog Try.f11 Rows.ceilingSimulatesRow.domain false) (Rows.ceilingSimulatesSpec.post enc Try.prog Try.f11 false true false false) := by
  refine returnsInHanded_of_change_sized (C := Try.checked) own started (by kernel_rfl) Try.func11
    (ChangeSpec.witness6 (enc := enc) (C := Try.checked) false ⟨#[], #[.slice none 0 0, .slice none 0 0, .int .i64 0], []⟩ 8 (by kernel_rfl) (by kernel_rfl) (by kernel_rfl) (by kernel_rfl)) ?_
  intro W base args ds gs before hval0 hW hcnd hsz0 _
  have hsz : (DataW.weightsEach Try.prog (Try.f11.params.toList ++ Rows.ceilingSimulatesSpec.plain.varTypes Try.prog) (ds ++ gs)).all (· ≤ reachBytes) = true := hsz0
  have hval : ∀ (j : Nat) t v, Try.f11.params[j]? = some t → args[j]? = some v → Value.okWide Try.prog W .any base t v := hval0
  have hW' := hW
  obtain ⟨p, q, hA0, hV, rfl, hfz, hnd⟩ := hW
  have hA : DataW.TrodAll enc Try.prog W 0 (fun _ => true) true Try.f11.params.toList args.toList ds p := hA0
  rw [Try.params11] at hA hval hsz
  obtain ⟨v0, vs0, d0, ds0, p0, q0, hargs, rfl, rfl, h0, r0⟩ := trodAll_cons hA
  obtain ⟨v1, vs1, d1, ds1, p1, q1, rfl, rfl, rfl, h1, r1⟩ := trodAll_cons r0
  obtain ⟨v2, vs2, d2, ds2, p2, q2, rfl, rfl, rfl, h2, r2⟩ := trodAll_cons r1
  obtain ⟨rfl, rfl, rfl⟩ := trodAll_nil r2
  obtain rfl : args = #[v0, v1, v2] := by cases args; simp_all
  obtain ⟨rfl, rfl⟩ := trodVars_none hV
  have k0 := h0
  have lt0 : ∀ x ∈ p0, x.block < W.heap.size := by obtain ⟨m, hm⟩ := k0; exact DataW.trod_lt m _ _ _ hm
  obtain ⟨l0, A0, c0, rfl, hc0, hr0, ⟨hm0, hw0⟩, sz0⟩ := open_sl (opens_slice (d := k49) Try.underlying22 (by kernel_rfl) (opens_iso (fun x : S49 => (x.f0, x.f1, x.f2, x.f3)) (fun p => ⟨p.1, p.2.1, p.2.2.1, p.2.2.2⟩) (fun _ => rfl) (opens_st4 Try.underlying49 (by kernel_rfl) rfl (by kernel_rfl) (by kernel_rfl) (by kernel_rfl) (by kernel_rfl) (by kernel_rfl) (by kernel_rfl) (by kernel_rfl) (opens_int Try.underlying3) (opens_int Try.underlying3) (opens_int Try.underlying3) (opens_slice (d := k68) Try.underlying47 (by kernel_rfl) (opens_iso (fun x : S68 => (x.f0, x.f1, x.f2)) (fun p => ⟨p.1, p.2.1, p.2.2⟩) (fun _ => rfl) (opens_st3 Try.underlying68 (by kernel_rfl) rfl (by kernel_rfl) (by kernel_rfl) (by kernel_rfl) (by kernel_rfl) (by kernel_rfl) (opens_int Try.underlying3) (opens_int Try.underlying3) (opens_int Try.underlying3))))))) Try.underlying22 (hval 0 22 v0 rfl rfl) h0
  have y0 : l0.length * (Try.prog.bytesOf 49) ≤ 140737488351232 := by
    exact sz0 _ _ 0 hsz rfl rfl
  rw [show Try.prog.bytesOf 49 = 48 from by kernel_rfl] at y0
  have k1 := h1
  have lt1 : ∀ x ∈ p1, x.block < W.heap.size := by obtain ⟨m, hm⟩ := k1; exact DataW.trod_lt m _ _ _ hm
  obtain ⟨l1, A1, c1, rfl, hc1, hr1, ⟨hm1, hw1⟩, sz1⟩ := open_sl (opens_slice (d := (Kd.slice 3 (Kd.int .i64))) Try.underlying30 (by kernel_rfl) (opens_slice (d := (Kd.int .i64)) Try.underlying38 (by kernel_rfl) (opens_int Try.underlying3))) Try.underlying30 (hval 1 30 v1 rfl rfl) h1
  have y1 : l1.length * (Try.prog.bytesOf 38) ≤ 140737488351232 := by
    exact sz1 _ _ 1 hsz rfl rfl
  rw [show Try.prog.bytesOf 38 = 24 from by kernel_rfl] at y1
  obtain ⟨a2, rfl, rfl, rfl, w2⟩ := open_int Try.underlying3 (hval 2 3 v2 rfl rfl) h2
  clear hA0 hval0 hsz0 hsz
  obtain ⟨k, h⟩ := Pure.CeilingSimulates l0 l1 a2 hm0 hw0 y0 hm1 hw1 y1 w2
  refine (ontimelaw43_CeilingSimulates.calls k A0 c0 l0 A1 c1 l1 a2 true W hr0 hc0 hr1 hc1 h).mono fun e W' ⟨he, bel⟩ => ?_
  subst he
  exact ⟨_, rfl, _, _, _, [], _, [], hW', trodAll_mk1 (shut_bool Try.underlying4 _), (trodAll_cons_mk (Below.trod laidOut (by kernel_rfl) (of_decide_eq_true (by kernel_rfl)) k0 bel lt0) (trodAll_cons_mk (Below.trod laidOut (by kernel_rfl) (of_decide_eq_true (by kernel_rfl)) k1 bel lt1) (trodAll_cons_mk (shut_int Try.underlying3 w2) trodAll_mk0))), rfl, bel.frame _, fun h => by cases h⟩
theorem over : Rows.ceilingSimulatesRow.holds Try.pinned (OpenSpec.ofChange Rows.ceilingSimulatesSpec) :=
  OpenClaim.holds_of_wide 11 Try.f11 rfl rfl rfl rfl rfl rfl rfl ⟨rfl, rfl, rfl, rfl, rfl⟩ rfl rfl rfl rfl rfl (by kernel_rfl) Try.func11 (by kernel_rfl)
    (of_decide_eq_true (by kernel_rfl)) (by unfold Func.isWrapper; first | (rw [if_pos (by decide +kernel)]; kernel_rfl) | (rw [if_neg (by decide +kernel)]; exact ⟨rfl, rfl⟩))
    (fun os started H enc _ => lifted os started H enc)
theorem proved : Rows.CeilingSimulatesSaid := over
#print axioms proved
end Go.Proofs.Ytcmifojplgmgkaa.ceilingSimulates
namespace Go.Proofs.Ytcmifojplgmgkaa
/-- The row, under a short name, for the claim. -/
theorem ceilingSimulates_holds : Rows.CeilingSimulatesSaid := ceilingSimulates.proved
end Go.Proofs.Ytcmifojplgmgkaa