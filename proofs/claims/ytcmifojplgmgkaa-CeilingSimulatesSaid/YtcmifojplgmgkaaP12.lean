-- written by wip/drive.py (a driver of this session's own over the kit's print.py)
import Derived.Maps.OwnOps
import Derived.Maps.Views
import Derived.Test.YtcmifojplgmgkaaP0
import Derived.Test.YtcmifojplgmgkaaP3
import Derived.Test.YtcmifojplgmgkaaP5
import Derived.Test.YtcmifojplgmgkaaP7
import Derived.Test.YtcmifojplgmgkaaP11
import Derived.Test.YtcmifojplgmgkaaP13
namespace Go.Proofs.Ytcmifojplgmgkaa.P
open Go.RowKit Go.Proofs.YtcmifojplgmgkaaW.PrintWords Go.Proofs.YtcmifojplgmgkaaW.PrintLast Go.Proofs.YtcmifojplgmgkaaW.PrintMore
attribute [local go_sem] max2_int min2_int max_two min_two max_three min_three max_four min_four   -- for this text's walks alone
set_option linter.unusedVariables false
set_option linter.unusedSimpArgs false

-- PLUG
/-! ### ceiling_rank (function 51): by hand: it reads a pending job through its pointer -/
/-- A pending job. -/
structure PJ where
  task : Int
  rel : Int
  start : Int
  fin : Int
  blk : Int
  done : Int
  began : Bool
def PJ.cells (p : PJ) : Array Value := #[.int .i64 p.task, .int .i64 p.rel, .int .i64 p.start, .int .i64 p.fin, .int .i64 p.blk, .int .i64 p.done, .bool p.began]
/-- The section in which a job is that has executed so many units. -/
def inSec (ss : List S68) (d : Int) : Option S68 := ss.find? fun s => decide (s.f1 < d) && decide (d < s.f2)
def secRes : Option S68 → Int × Int × Int × Bool
  | some s => (s.f0, s.f1, s.f2, true)
  | none => (0, 0, 0, false)
theorem holds_l0 (d : Int) (ss : List S68) (h8 : ss.length ≤ 8) : ∀ (n i k : Nat), i + n = ss.length → n + 1 ≤ k → ceiling_Task_holds.l0 k d ss (ss.length : Int) (i : Int) = some (secRes (inSec (ss.drop i) d)) := by
  intro n
  induction n with
  | zero =>
    intro i k hi hk
    obtain ⟨k, rfl⟩ : ∃ m, k = m + 1 := ⟨k - 1, by omega⟩
    simp only [ceiling_Task_holds.l0]
    rw [if_neg (by omega), List.drop_of_length_le (by omega)]
    rfl
  | succ n ih =>
    intro i k hi hk
    obtain ⟨k, rfl⟩ : ∃ m, k = m + 1 := ⟨k - 1, by omega⟩
    have hil : i < ss.length := by omega
    simp only [ceiling_Task_holds.l0]
    rw [if_pos (by omega), if_pos (by omega), if_pos (by omega), rd68_at ss i hil, wrap64_of (x := (i : Int) + 1) (by omega) (by omega), List.drop_eq_getElem_cons hil]
    have := ih (i + 1) k (by omega) (by omega)
    rw [show ((i + 1 : Nat) : Int) = (i : Int) + 1 by omega] at this
    unfold inSec at this ⊢
    rw [List.find?_cons, this]
    by_cases h1 : ss[i].f1 < d
    · rw [if_pos h1, decide_eq_true h1]
      by_cases h2 : d < ss[i].f2
      · rw [if_pos h2, decide_eq_true h2]
        rfl
      · rw [if_neg h2, decide_eq_false h2]
        rfl
    · rw [if_neg h1, decide_eq_false h1]
      rfl
theorem holds_eq {k : Nat} (hk : 9 ≤ k) (a b c d : Int) {ss : List S68} (h8 : ss.length ≤ 8) : ceiling_Task_holds.f k a b c ss d = some (secRes (inSec ss d)) := by
  unfold ceiling_Task_holds.f
  have := holds_l0 d ss h8 ss.length 0 k (by omega) (by omega)
  rw [List.drop_zero] at this
  exact this
/-- The active priority of a pending job, and 0 if it holds an object. -/
def rankV (l : List S49) (t d : Int) : Int × Int := match inSec (rd_T49 l t).f3 d with
  | some s => (mn t (ceilF l s.f0), 0)
  | none => (t, 1)
theorem pj_cell {w : World} {b : Nat} {cs : Array Value} {t : TypeId} (h : w.heap[b]? = some (.cells cs t (0, 0))) (j : Nat) (v : Value) (hv : cs[j]? = some v) : w.cell? ⟨b, j, none⟩ = some v := by
  simp [World.cell?, h, hv]
theorem zset {W : World} {B : Nat} {u a b c : Value} (h : W.cell? ⟨B, 0, none⟩ = some u) : (((W.setCell ⟨B, 0, none⟩ a).setCell ⟨B, 1, none⟩ b).setCell ⟨B, 2, none⟩ c).cell? ⟨B, 0, none⟩ = some a := by
  have h1 : (⟨B, 2, none⟩ : Addr) ≠ ⟨B, 0, none⟩ := by simp
  have h2 : (⟨B, 1, none⟩ : Addr) ≠ ⟨B, 0, none⟩ := by simp
  rw [World.cell?_setCell_other (h := h1), World.cell?_setCell_other (h := h2)]
  exact World.cell?_setCell_same _ _ _ h
theorem zfacts {W w1 : World} (hb : Below (W.drew.alloc (.cells #[.int .i64 0, .int .i64 0, .int .i64 0] 68)).heap.size (W.drew.alloc (.cells #[.int .i64 0, .int .i64 0, .int .i64 0] 68)) w1) :
    w1.cell? ⟨W.heap.size, 0, none⟩ = some (.int .i64 0) ∧ w1.cell? ⟨W.heap.size, 1, none⟩ = some (.int .i64 0) ∧ w1.cell? ⟨W.heap.size, 2, none⟩ = some (.int .i64 0) ∧
      w1.frozen? ⟨W.heap.size, 0, none⟩ = false ∧ w1.frozen? ⟨W.heap.size, 1, none⟩ = false ∧ w1.frozen? ⟨W.heap.size, 2, none⟩ = false := by
  have zh : w1.heap[W.heap.size]? = some (.cells #[.int .i64 0, .int .i64 0, .int .i64 0] 68 (0, 0)) := (hb.block W.heap.size (by show W.heap.size < (W.heap.push _).size; rw [Array.size_push]; omega)).trans (blk_new W.drew _)
  exact ⟨pj_cell zh 0 _ rfl, pj_cell zh 1 _ rfl, pj_cell zh 2 _ rfl, blk_frozen zh 0, blk_frozen zh 1, blk_frozen zh 2⟩
theorem map_below {H : Type} {w w1 : World} {mb n : Nat} {D : DataW H} {k : TypeId} {R : Value → Option (DataW H × List MemPlace)} (h : w.ownsMap Try.prog k R mb n D) (hb : Below w.heap.size w w1) : w1.ownsMap Try.prog k R mb n D := by
  have hl := h.lt
  obtain ⟨es, clock, hh, r⟩ := h
  exact ⟨es, clock, (hb.block mb hl).trans hh, r⟩
theorem look_ceil {l : List S49} {W : World} {mb n : Nat} {o : Int} (h : W.ownsMap Try.prog 3 (plainElem (H := Unit) Try.prog 3) mb n (ceilL l l.length)) (o0 : 0 ≤ o) (o1 : o ≤ 1000) :
    (Instr.lookup 65 (.map (some mb)) (.int .i64 o) false).run Try.prog W = .ok (.int .i64 (ceilF l o)) W := by
  have hkey := Maps.keyOf_int_mk Try.underlying3 (wf64 (show -9223372036854775808 ≤ o by omega) (by omega))
  obtain ⟨c, hrun, hat, _⟩ := h.lookup_int (Maps.int_keyed Try.underlying3) Try.underlying65 Try.underlying3 (Try.zeroValue3 _) hkey
  rw [lit_int_inj ((ceilL_at l o).symm.trans hat)]
  exact hrun
set_option maxHeartbeats 8000000 in
set_option maxRecDepth 100000 in
theorem rank_none (A : Option Addr) (c : Nat) (l : List S49) (mb pb : Nat) (p : PJ) (w : World) (hr : Kd.C k49 w A l.length l) (hc : l.length ≤ c) (hv : vld l = true) (hown : w.ownsMap Try.prog 3 (plainElem (H := Unit) Try.prog 3) mb (8 * l.length) (ceilL l l.length))
    (hp : w.heap[pb]? = some (.cells p.cells 82 (0, 0))) (ht : 0 ≤ p.task ∧ p.task < l.length) (hs : inSec (rd_T49 l p.task).f3 p.done = none) :
    Calls Try.prog 51 #[.slice A l.length c, .map (some mb), .pointer (some ⟨pb, 0, none⟩)] w fun e w' => e = .returned (.tuple #[.int .i64 (rankV l p.task p.done).1, .int .i64 (rankV l p.task p.done).2]) ∧ Below w.heap.size w w' := by
  have hu49 := Try.underlying49
  have hu68 := Try.underlying68
  have hu22 := Try.underlying22
  obtain ⟨t0, t1⟩ := ht
  have y0 : w.cell? ⟨pb, 0, none⟩ = some (.int .i64 p.task) := pj_cell hp 0 _ rfl
  have y5 : w.cell? ⟨pb, 5, none⟩ = some (.int .i64 p.done) := pj_cell hp 5 _ rfl
  obtain ⟨ad, A3, c3, hA, x0, x1, x2, x3, x4, x5⟩ := at_T49 hr p.task t0 t1
  subst hA
  have HV := Aside0.mk hv
  have HO := Aside0.mk hown
  have X4 := Aside0.mk x4
  have X5 := Aside0.mk x5
  clear hr hp hown x4 x5 hv
  have h8 : (rd_T49 l p.task).f3.length ≤ 8 := (vldT_of ((vld_of HV.out).2 _ (rd49_mem t0 t1))).2.2.2.2.2.2.1
  have hh := holds_eq (Nat.le_refl 9) (rd_T49 l p.task).f0 (rd_T49 l p.task).f1 (rd_T49 l p.task).f2 p.done h8
  have q0 := World.new_ne w _ y0
  have q1 := World.new_ne w _ y5
  have q2 := World.new_ne w _ x0
  have q3 := World.new_ne w _ x1
  have q4 := World.new_ne w _ x2
  have q5 := World.new_ne w _ x3
  have l0 := World.block_lt_of_cell? w _ y0
  have l1 := World.block_lt_of_cell? w _ y5
  have l2 := World.block_lt_of_cell? w _ x0
  have l3 := World.block_lt_of_cell? w _ x1
  have l4 := World.block_lt_of_cell? w _ x2
  have l5 := World.block_lt_of_cell? w _ x3
  rw [hs] at hh
  have HH := Aside0.mk (show ceiling_Task_holds.f 9 _ _ _ _ _ = some (0, 0, 0, false) from hh)
  have hrk : rankV l p.task p.done = (p.task, 1) := by unfold rankV; rw [hs]
  rw [hrk]
  clear hh hs hrk
  go_enter Try.func51, Try.ntmps51
  go_wp2
  go_region_held3 (fun w' => w'.cell? ⟨pb, 0, none⟩ = some (.int .i64 p.task) ∧ w'.cell? ⟨pb, 5, none⟩ = some (.int .i64 p.done) ∧ w'.cell? (ad.add (p.task.toNat * 4)) = some (.int .i64 (rd_T49 l p.task).f0) ∧ w'.cell? ⟨(ad.add (p.task.toNat * 4)).block, (ad.add (p.task.toNat * 4)).off + 1, none⟩ = some (.int .i64 (rd_T49 l p.task).f1) ∧
      w'.cell? ⟨(ad.add (p.task.toNat * 4)).block, (ad.add (p.task.toNat * 4)).off + 2, none⟩ = some (.int .i64 (rd_T49 l p.task).f2) ∧ w'.cell? ⟨(ad.add (p.task.toNat * 4)).block, (ad.add (p.task.toNat * 4)).off + 3, none⟩ = some (.slice A3 (rd_T49 l p.task).f3.length c3))
    (first | exact ⟨y0, y5, x0, x1, x2, x3⟩ | assumption | (have hb := ‹Below _ _ _›; obtain ⟨s0, s1, s2, s3, s4, s5⟩ := ‹_ ∧ _ ∧ _ ∧ _ ∧ _ ∧ _›; exact ⟨pw_cell_below hb s0, pw_cell_below hb s1, pw_cell_below hb s2, pw_cell_below hb s3, pw_cell_below hb s4, pw_cell_below hb s5⟩) | (obtain ⟨s0, s1, s2, s3, s4, s5⟩ := ‹_ ∧ _ ∧ _ ∧ _ ∧ _ ∧ _›; exact ⟨cell_new_ _ s0, cell_new_ _ s1, cell_new_ _ s2, cell_new_ _ s3, cell_new_ _ s4, cell_new_ _ s5⟩) | (obtain ⟨s0, s1, s2, s3, s4, s5⟩ := ‹_ ∧ _ ∧ _ ∧ _ ∧ _ ∧ _›; have hz := hb1.size; exact ⟨cell_new_ _ (cell_unalloc s0 (Nat.lt_of_lt_of_le l0 hz)), cell_new_ _ (cell_unalloc s1 (Nat.lt_of_lt_of_le l1 hz)), cell_new_ _ (cell_unalloc s2 (Nat.lt_of_lt_of_le l2 hz)), cell_new_ _ (cell_unalloc s3 (Nat.lt_of_lt_of_le l3 hz)), cell_new_ _ (cell_unalloc s4 (Nat.lt_of_lt_of_le l4 hz)), cell_new_ _ (cell_unalloc s5 (Nat.lt_of_lt_of_le l5 hz))⟩) | go_keep)
    (first | (go_at_call 59; refine (ceiling_Task_holds.calls 9 _ _ _ A3 c3 (rd_T49 l p.task).f3 p.done _ _ _ _ _ (Kd.C_below X5.out (by first | exact below_drew (Below.refl _ _) | exact below_alloc (below_drew (Below.refl _ _)) _)) X4.out HH.out).mono ?_; rintro e' w1 ⟨rfl, hb1⟩; (try have zz := zfacts hb1); (try obtain ⟨z0, z1, z2, f0, f1, f2⟩ := zz)))
  all_goals
    have hz := ‹_ ∧ _ ∧ _ ∧ _ ∧ _ ∧ _›
    obtain ⟨s0, _, _, _, _, _⟩ := hz
    go_wp2
    go_ret2
    refine ⟨rfl, ?_⟩
    first
      | exact below_alloc (below_step (below_drew (Below.refl _ _)) hb1) _
      | exact below_step (below_alloc (below_drew (Below.refl _ _)) _) hb1
      | (repeat (first | exact below_step (below_alloc (below_drew (Below.refl _ _)) _) hb1 | exact Nat.le_refl _ | apply below_set))
set_option maxHeartbeats 8000000 in
set_option maxRecDepth 100000 in
theorem rank_some (A : Option Addr) (c : Nat) (l : List S49) (mb pb : Nat) (p : PJ) (w : World) (hr : Kd.C k49 w A l.length l) (hc : l.length ≤ c) (hv : vld l = true) (hown : w.ownsMap Try.prog 3 (plainElem (H := Unit) Try.prog 3) mb (8 * l.length) (ceilL l l.length))
    (hp : w.heap[pb]? = some (.cells p.cells 82 (0, 0))) (ht : 0 ≤ p.task ∧ p.task < l.length) (s : S68) (hs : inSec (rd_T49 l p.task).f3 p.done = some s) :
    Calls Try.prog 51 #[.slice A l.length c, .map (some mb), .pointer (some ⟨pb, 0, none⟩)] w fun e w' => e = .returned (.tuple #[.int .i64 (rankV l p.task p.done).1, .int .i64 (rankV l p.task p.done).2]) ∧ Below w.heap.size w w' := by
  have hu49 := Try.underlying49
  have hu68 := Try.underlying68
  have hu22 := Try.underlying22
  obtain ⟨t0, t1⟩ := ht
  have y0 : w.cell? ⟨pb, 0, none⟩ = some (.int .i64 p.task) := pj_cell hp 0 _ rfl
  have y5 : w.cell? ⟨pb, 5, none⟩ = some (.int .i64 p.done) := pj_cell hp 5 _ rfl
  obtain ⟨ad, A3, c3, hA, x0, x1, x2, x3, x4, x5⟩ := at_T49 hr p.task t0 t1
  subst hA
  have HV := Aside0.mk hv
  have HO := Aside0.mk hown
  have X4 := Aside0.mk x4
  have X5 := Aside0.mk x5
  clear hr hp hown x4 x5 hv
  have h8 : (rd_T49 l p.task).f3.length ≤ 8 := (vldT_of ((vld_of HV.out).2 _ (rd49_mem t0 t1))).2.2.2.2.2.2.1
  have hh := holds_eq (Nat.le_refl 9) (rd_T49 l p.task).f0 (rd_T49 l p.task).f1 (rd_T49 l p.task).f2 p.done h8
  have q0 := World.new_ne w _ y0
  have q1 := World.new_ne w _ y5
  have q2 := World.new_ne w _ x0
  have q3 := World.new_ne w _ x1
  have q4 := World.new_ne w _ x2
  have q5 := World.new_ne w _ x3
  have l0 := World.block_lt_of_cell? w _ y0
  have l1 := World.block_lt_of_cell? w _ y5
  have l2 := World.block_lt_of_cell? w _ x0
  have l3 := World.block_lt_of_cell? w _ x1
  have l4 := World.block_lt_of_cell? w _ x2
  have l5 := World.block_lt_of_cell? w _ x3
  rw [hs] at hh
  have HH := Aside0.mk (show ceiling_Task_holds.f 9 _ _ _ _ _ = some (s.f0, s.f1, s.f2, true) from hh)
  have hrk : rankV l p.task p.done = (mn p.task (ceilF l s.f0), 0) := by unfold rankV; rw [hs]
  rw [hrk]
  obtain ⟨_, _, _, _, _, _, _, v8⟩ := vldT_of ((vld_of HV.out).2 _ (rd49_mem t0 t1))
  obtain ⟨_, _, _, o0, o1⟩ := secB_bd (Int.le_refl 0) v8 s (List.mem_of_find?_eq_some hs)
  clear hh hs hrk v8
  go_enter Try.func51, Try.ntmps51
  go_wp2
  go_region_held3 (fun w' => w'.cell? ⟨pb, 0, none⟩ = some (.int .i64 p.task) ∧ w'.cell? ⟨pb, 5, none⟩ = some (.int .i64 p.done) ∧ w'.cell? (ad.add (p.task.toNat * 4)) = some (.int .i64 (rd_T49 l p.task).f0) ∧ w'.cell? ⟨(ad.add (p.task.toNat * 4)).block, (ad.add (p.task.toNat * 4)).off + 1, none⟩ = some (.int .i64 (rd_T49 l p.task).f1) ∧
      w'.cell? ⟨(ad.add (p.task.toNat * 4)).block, (ad.add (p.task.toNat * 4)).off + 2, none⟩ = some (.int .i64 (rd_T49 l p.task).f2) ∧ w'.cell? ⟨(ad.add (p.task.toNat * 4)).block, (ad.add (p.task.toNat * 4)).off + 3, none⟩ = some (.slice A3 (rd_T49 l p.task).f3.length c3))
    (first | exact ⟨y0, y5, x0, x1, x2, x3⟩ | assumption | (have hb := ‹Below _ _ _›; obtain ⟨s0, s1, s2, s3, s4, s5⟩ := ‹_ ∧ _ ∧ _ ∧ _ ∧ _ ∧ _›; exact ⟨pw_cell_below hb s0, pw_cell_below hb s1, pw_cell_below hb s2, pw_cell_below hb s3, pw_cell_below hb s4, pw_cell_below hb s5⟩) | (obtain ⟨s0, s1, s2, s3, s4, s5⟩ := ‹_ ∧ _ ∧ _ ∧ _ ∧ _ ∧ _›; exact ⟨cell_new_ _ s0, cell_new_ _ s1, cell_new_ _ s2, cell_new_ _ s3, cell_new_ _ s4, cell_new_ _ s5⟩) | (obtain ⟨s0, s1, s2, s3, s4, s5⟩ := ‹_ ∧ _ ∧ _ ∧ _ ∧ _ ∧ _›; have hz := hb1.size; exact ⟨cell_new_ _ (cell_unalloc s0 (Nat.lt_of_lt_of_le l0 hz)), cell_new_ _ (cell_unalloc s1 (Nat.lt_of_lt_of_le l1 hz)), cell_new_ _ (cell_unalloc s2 (Nat.lt_of_lt_of_le l2 hz)), cell_new_ _ (cell_unalloc s3 (Nat.lt_of_lt_of_le l3 hz)), cell_new_ _ (cell_unalloc s4 (Nat.lt_of_lt_of_le l4 hz)), cell_new_ _ (cell_unalloc s5 (Nat.lt_of_lt_of_le l5 hz))⟩) | go_keep)
    (first | (go_at_call 59; refine (ceiling_Task_holds.calls 9 _ _ _ A3 c3 (rd_T49 l p.task).f3 p.done _ _ _ _ _ (Kd.C_below X5.out (by first | exact below_drew (Below.refl _ _) | exact below_alloc (below_drew (Below.refl _ _)) _)) X4.out HH.out).mono ?_; rintro e' w1 ⟨rfl, hb1⟩; (try have zz := zfacts hb1); (try obtain ⟨z0, z1, z2, f0, f1, f2⟩ := zz)))
  all_goals
    have hz := ‹_ ∧ _ ∧ _ ∧ _ ∧ _ ∧ _›
    obtain ⟨s0, _, _, _, _, _⟩ := hz
    by_cases hct : ceilF l s.f0 < p.task
    all_goals
      first
      | have hB0 : (w1.alloc (.cells #[.int .i64 s.f0, .int .i64 s.f1, .int .i64 s.f2] 68)).cell? ⟨w1.heap.size, 0, none⟩ = some (.int .i64 s.f0) := World.cell?_alloc_new _ _ _ 0
        have HW : Aside0 (Below w.heap.size w (w1.alloc (.cells #[.int .i64 s.f0, .int .i64 s.f1, .int .i64 s.f2] 68))) := ⟨below_alloc (below_step (below_drew (Below.refl _ _)) hb1) _⟩
        go_wp2
        go_region_held3 (fun w' => w'.cell? ⟨pb, 0, none⟩ = some (.int .i64 p.task) ∧ w'.cell? ⟨w1.heap.size, 0, none⟩ = some (.int .i64 s.f0) ∧ (Instr.lookup 65 (.map (some mb)) (.int .i64 s.f0) false).run Try.prog w' = .ok (.int .i64 (ceilF l s.f0)) w') (first | exact ⟨s0, hB0, look_ceil (map_below HO.out (below_drew HW.out)) o0 o1⟩ | assumption) (fail)
        all_goals
          go_wp2
          go_ret2
          refine ⟨?_, below_drew HW.out⟩
          unfold mn
          first | (rw [if_pos hct]; rfl) | (rw [if_neg (show ¬ (ceilF l s.f0 < p.task) by omega)]; rfl)
      | have hB0 : (((w1.setCell ⟨w.heap.size, 0, none⟩ (.int .i64 s.f0)).setCell ⟨w.heap.size, 1, none⟩ (.int .i64 s.f1)).setCell ⟨w.heap.size, 2, none⟩ (.int .i64 s.f2)).cell? ⟨w.heap.size, 0, none⟩ = some (.int .i64 s.f0) := zset z0
        have HW : Aside0 (Below w.heap.size w (((w1.setCell ⟨w.heap.size, 0, none⟩ (.int .i64 s.f0)).setCell ⟨w.heap.size, 1, none⟩ (.int .i64 s.f1)).setCell ⟨w.heap.size, 2, none⟩ (.int .i64 s.f2))) := ⟨below_set (below_set (below_set (below_step (below_drew (below_alloc (Below.refl _ _) _)) hb1) (Nat.le_refl _)) (Nat.le_refl _)) (Nat.le_refl _)⟩
        go_wp2
        go_region_held3 (fun w' => w'.cell? ⟨pb, 0, none⟩ = some (.int .i64 p.task) ∧ w'.cell? ⟨w.heap.size, 0, none⟩ = some (.int .i64 s.f0) ∧ (Instr.lookup 65 (.map (some mb)) (.int .i64 s.f0) false).run Try.prog w' = .ok (.int .i64 (ceilF l s.f0)) w') (first | exact ⟨s0, hB0, look_ceil (map_below HO.out (below_drew HW.out)) o0 o1⟩ | assumption) (fail)
        all_goals
          go_wp2
          go_ret2
          refine ⟨?_, below_drew HW.out⟩
          unfold mn
          first | (rw [if_pos hct]; rfl) | (rw [if_neg (show ¬ (ceilF l s.f0 < p.task) by omega)]; rfl)

set_option maxHeartbeats 8000000 in
set_option maxRecDepth 100000 in
theorem ceiling_rank.calls (A : Option Addr) (c : Nat) (l : List S49) (mb pb : Nat) (p : PJ) (w : World) (hr : Kd.C k49 w A l.length l) (hc : l.length ≤ c) (hv : vld l = true) (hown : w.ownsMap Try.prog 3 (plainElem (H := Unit) Try.prog 3) mb (8 * l.length) (ceilL l l.length))
    (hp : w.heap[pb]? = some (.cells p.cells 82 (0, 0))) (ht : 0 ≤ p.task ∧ p.task < l.length) :
    Calls Try.prog 51 #[.slice A l.length c, .map (some mb), .pointer (some ⟨pb, 0, none⟩)] w fun e w' => e = .returned (.tuple #[.int .i64 (rankV l p.task p.done).1, .int .i64 (rankV l p.task p.done).2]) ∧ Below w.heap.size w w' := by
  cases hs : inSec (rd_T49 l p.task).f3 p.done with
  | none => exact rank_none A c l mb pb p w hr hc hv hown hp ht hs
  | some s => exact rank_some A c l mb pb p w hr hc hv hown hp ht s hs
/-! (function 50): by hand: a function value over two pending jobs -/
def cmpI (a b : Int) : Int := if a < b then -1 else if a > b then 1 else 0
theorem cmp_eq (a b : Int) : cmp_Compare_int.f a b = some (cmpI a b) := by
  unfold cmp_Compare_int.f cmp_isNaN_int.f cmpI
  simp only [Option.bind_some, bne_self_eq_false]
  rw [if_neg (by simp), if_neg (by simp)]
  split
  · rfl
  · split <;> rfl
def or4 (a b c d : Int) : Int := if a = 0 then if b = 0 then if c = 0 then d else c else b else a
theorem or_eq (a b c d : Int) : cmp_Or_int.f 6 [a, b, c, d] = some (or4 a b c d) := by
  unfold cmp_Or_int.f or4
  simp only [cmp_Or_int.l0]
  have w1 : wrap64 (0 + 1) = 1 := by rw [wrap64_of (by omega) (by omega)]; rfl
  have w2 : wrap64 (1 + 1) = 2 := by rw [wrap64_of (by omega) (by omega)]; rfl
  have w3 : wrap64 (2 + 1) = 3 := by rw [wrap64_of (by omega) (by omega)]; rfl
  have w4 : wrap64 (3 + 1) = 4 := by rw [wrap64_of (by omega) (by omega)]; rfl
  simp only [List.length_cons, List.length_nil, w1, w2, w3, w4]
  have e0 : rd [a, b, c, d] 0 = a := rfl
  have e1 : rd [a, b, c, d] 1 = b := rfl
  have e2 : rd [a, b, c, d] 2 = c := rfl
  have e3 : rd [a, b, c, d] 3 = d := rfl
  rw [e0, e1, e2, e3]
  by_cases ha : a = 0
  · by_cases hb : b = 0
    · by_cases hc : c = 0
      · by_cases hd : d = 0
        · simp [ha, hb, hc, hd]
        · simp [ha, hb, hc, hd]
      · simp [ha, hb, hc]
    · simp [ha, hb]
  · simp [ha]
theorem row4 (W : World) (a b c d : Int) : Kd.C (Kd.int .i64) (W.alloc (.cells #[.int .i64 a, .int .i64 b, .int .i64 c, .int .i64 d] 3)) (some ⟨W.heap.size, 0, none⟩) 4 [a, b, c, d] := by
  refine ⟨rfl, by decide, fun _ => ⟨_, rfl, fun j p hp => ⟨[.int .i64 p], rfl, rfl, fun i u hu => ?_⟩⟩⟩
  cases i with
  | succ i => cases hu
  | zero =>
    obtain rfl := Option.some.inj hu
    have h : (W.alloc (.cells #[.int .i64 a, .int .i64 b, .int .i64 c, .int .i64 d] 3)).cell? ⟨W.heap.size, j, none⟩ = (#[.int .i64 a, .int .i64 b, .int .i64 c, .int .i64 d] : Array Value)[j]? := World.cell?_alloc_new _ _ _ j
    have e : (⟨W.heap.size, 0, none⟩ : Addr).add (j * 1 + 0) = ⟨W.heap.size, j, none⟩ := by rw [Nat.mul_one, Nat.add_zero]; exact add_plain _ _
    show (W.alloc _).cell? ((⟨W.heap.size, 0, none⟩ : Addr).add (j * 1 + 0)) = _
    rw [e, h]
    match j, hp with
    | 0, hp => rw [← Option.some.inj hp]; rfl
    | 1, hp => rw [← Option.some.inj hp]; rfl
    | 2, hp => rw [← Option.some.inj hp]; rfl
    | 3, hp => rw [← Option.some.inj hp]; rfl
    | j + 4, hp => cases hp
/-- How two pending jobs compare. -/
def cmpV (l : List S49) (p q : PJ) : Int := or4 (cmpI (rankV l p.task p.done).1 (rankV l q.task q.done).1) (cmpI (rankV l p.task p.done).2 (rankV l q.task q.done).2) (cmpI p.task q.task) (cmpI p.rel q.rel)
set_option maxHeartbeats 8000000 in
set_option maxRecDepth 100000 in
theorem cmpJobs.calls (A : Option Addr) (c : Nat) (l : List S49) (mb pb qb b3 b9 : Nat) (p q : PJ) (w : World) (hr : Kd.C k49 w A l.length l) (hc : l.length ≤ c) (hv : vld l = true) (hown : w.ownsMap Try.prog 3 (plainElem (H := Unit) Try.prog 3) mb (8 * l.length) (ceilL l l.length))
    (hp : w.heap[pb]? = some (.cells p.cells 82 (0, 0))) (hq : w.heap[qb]? = some (.cells q.cells 82 (0, 0))) (ht : 0 ≤ p.task ∧ p.task < l.length) (hu : 0 ≤ q.task ∧ q.task < l.length)
    (h3 : w.cell? ⟨b3, 0, none⟩ = some (.slice A l.length c)) (h9 : w.cell? ⟨b9, 0, none⟩ = some (.map (some mb))) :
    Calls Try.prog 50 #[.pointer (some ⟨pb, 0, none⟩), .pointer (some ⟨qb, 0, none⟩), .pointer (some ⟨b3, 0, none⟩), .pointer (some ⟨b9, 0, none⟩)] w fun e w' => e = .returned (.int .i64 (cmpV l p q)) ∧ Below w.heap.size w w' := by
  have hu22 := Try.underlying22
  have y0 : w.cell? ⟨pb, 0, none⟩ = some (.int .i64 p.task) := pj_cell hp 0 _ rfl
  have y1 : w.cell? ⟨pb, 1, none⟩ = some (.int .i64 p.rel) := pj_cell hp 1 _ rfl
  have z0 : w.cell? ⟨qb, 0, none⟩ = some (.int .i64 q.task) := pj_cell hq 0 _ rfl
  have z1 : w.cell? ⟨qb, 1, none⟩ = some (.int .i64 q.rel) := pj_cell hq 1 _ rfl
  have HR := Aside0.mk hr
  have HV := Aside0.mk hv
  have HO := Aside0.mk hown
  have HP := Aside0.mk hp
  have HQ := Aside0.mk hq
  have HT := Aside0.mk ht
  have HU := Aside0.mk hu
  clear hr hv hown hp hq ht hu
  go_enter Try.func50, Try.ntmps50
  go_wp2_with fail
  refine (ceiling_rank.calls A c l mb pb p w HR.out hc HV.out HO.out HP.out HT.out).mono ?_
  rintro e w1 ⟨rfl, hb1⟩
  have g3 := pw_cell_below hb1 h3
  have g9 := pw_cell_below hb1 h9
  have HB1 := Aside0.mk hb1
  clear hb1
  go_wp2_with fail
  refine (ceiling_rank.calls A c l mb qb q w1 (Kd.C_below HR.out HB1.out) hc HV.out (map_below HO.out HB1.out) ((HB1.out.block qb (blk_lt HQ.out)).trans HQ.out) HU.out).mono ?_
  rintro e w2 ⟨rfl, hb2⟩
  have HB2 := Aside0.mk (below_step HB1.out hb2)
  have k0 := pw_cell_below HB2.out y0
  have k1 := pw_cell_below HB2.out y1
  have k2 := pw_cell_below HB2.out z0
  have k3 := pw_cell_below HB2.out z1
  clear hb2 HB1 g3 g9 h3 h9 y0 y1 z0 z1
  generalize hx1 : (rankV l p.task p.done).1 = x1
  generalize hx2 : (rankV l p.task p.done).2 = x2
  generalize hx3 : (rankV l q.task q.done).1 = x3
  generalize hx4 : (rankV l q.task q.done).2 = x4
  have HX : Aside0 (cmpV l p q = or4 (cmpI x1 x3) (cmpI x2 x4) (cmpI p.task q.task) (cmpI p.rel q.rel)) := ⟨by rw [← hx1, ← hx2, ← hx3, ← hx4]; rfl⟩
  clear hx1 hx2 hx3 hx4
  go_wp2
  go_region_held3 (fun w' => w'.cell? ⟨pb, 0, none⟩ = some (.int .i64 p.task) ∧ w'.cell? ⟨pb, 1, none⟩ = some (.int .i64 p.rel) ∧ w'.cell? ⟨qb, 0, none⟩ = some (.int .i64 q.task) ∧ w'.cell? ⟨qb, 1, none⟩ = some (.int .i64 q.rel) ∧ Below w.heap.size w w')
    (first | exact ⟨k0, k1, k2, k3, below_drew HB2.out⟩ | assumption | (have hb := (‹Drawn0 _ _›).below; obtain ⟨s0, s1, s2, s3, s4⟩ := ‹_ ∧ _ ∧ _ ∧ _ ∧ Below w.heap.size w _›; exact ⟨pw_cell_below hb s0, pw_cell_below hb s1, pw_cell_below hb s2, pw_cell_below hb s3, below_step s4 hb⟩) | (obtain ⟨s0, s1, s2, s3, s4⟩ := ‹_ ∧ _ ∧ _ ∧ _ ∧ Below w.heap.size w _›; exact ⟨cell_new_ _ s0, cell_new_ _ s1, cell_new_ _ s2, cell_new_ _ s3, below_alloc s4 _⟩))
    (first | (go_at_call 53; refine (cmp_Compare_int.calls _ _ _ _ (cmp_eq _ _)).mono ?_; rintro e' w3 ⟨rfl, hd3⟩) | (go_at_call 52; refine (cmp_Or_int.calls 6 _ 4 [cmpI x1 x3, cmpI x2 x4, cmpI p.task q.task, cmpI p.rel q.rel] _ _ (row4 _ _ _ _ _) (Nat.le_refl _) (or_eq _ _ _ _)).mono ?_; rintro e' w4 ⟨rfl, hd4⟩))
  all_goals
    have hS := ‹_ ∧ _ ∧ _ ∧ _ ∧ Below w.heap.size w _›
    go_wp2
    go_ret
    exact ⟨by rw [HX.out]; rfl, hS.2.2.2.2⟩
/-! (function 49): by hand: the least of the pending jobs -/
/-- The job that is preferred to all: the first of the least. -/
def bestOf (l : List S49) (x : Nat × PJ) (r : List (Nat × PJ)) : Nat × PJ := r.foldl (fun m y => if cmpV l y.2 m.2 < 0 then y else m) x
theorem bestOf_mem (l : List S49) : ∀ (r : List (Nat × PJ)) (x : Nat × PJ), bestOf l x r ∈ x :: r
  | [], x => List.mem_cons_self
  | y :: r, x => by
    have h := bestOf_mem l r (if cmpV l y.2 x.2 < 0 then y else x)
    have e : bestOf l x (y :: r) = bestOf l (if cmpV l y.2 x.2 < 0 then y else x) r := rfl
    rw [e]
    split at h
    · exact List.mem_cons_of_mem _ (by rwa [if_pos (by assumption)])
    · rw [if_neg (by assumption)]
      rcases List.mem_cons.1 h with h | h
      · rw [h]; exact List.mem_cons_self
      · exact List.mem_cons_of_mem _ (List.mem_cons_of_mem _ h)
set_option maxHeartbeats 8000000 in
set_option maxRecDepth 100000 in
theorem minP.calls (g cap b3 b9 mb : Nat) (A : Option Addr) (c : Nat) (l : List S49) (x0 : Nat × PJ) (r : List (Nat × PJ)) (w : World) (hr : Kd.C k49 w A l.length l) (hc : l.length ≤ c) (hv : vld l = true)
    (hown : w.ownsMap Try.prog 3 (plainElem (H := Unit) Try.prog 3) mb (8 * l.length) (ceilL l l.length)) (hQ : ∀ x ∈ x0 :: r, w.heap[x.1]? = some (.cells x.2.cells 82 (0, 0)) ∧ 0 ≤ x.2.task ∧ x.2.task < l.length)
    (hcell : ∀ (j : Nat) (x : Nat × PJ), (x0 :: r)[j]? = some x → w.cell? ⟨g, j, none⟩ = some (.pointer (some ⟨x.1, 0, none⟩))) (hl : r.length ≤ 1000000)
    (h3 : w.cell? ⟨b3, 0, none⟩ = some (.slice A l.length c)) (h9 : w.cell? ⟨b9, 0, none⟩ = some (.map (some mb))) :
    Calls Try.prog 49 #[.slice (some ⟨g, 0, none⟩) (r.length + 1) cap, .func (.func 50) #[] #[.pointer (some ⟨b3, 0, none⟩), .pointer (some ⟨b9, 0, none⟩)]] w fun e w' =>
      e = .returned (.pointer (some ⟨(bestOf l x0 r).1, 0, none⟩)) ∧ Below w.heap.size w w' := by
  obtain ⟨n, hn⟩ : ∃ n, n = r.length + 1 := ⟨_, rfl⟩
  rw [← hn]
  have hn1 : 1 ≤ n := by omega
  have hn2 : n ≤ 1000001 := by omega
  have HN := Aside0.mk hn
  have HR := Aside0.mk hr
  have HV := Aside0.mk hv
  have HO := Aside0.mk hown
  have HQ := Aside0.mk hQ
  have HC := Aside0.mk hcell
  have H3 := Aside0.mk h3
  have H9 := Aside0.mk h9
  have y0 := hcell 0 x0 rfl
  clear hr hv hown hQ hcell h3 h9 hn hl
  go_enter Try.func49, Try.ntmps49
  go_wp2
  go_loopw [5, 6] (fun v5 v6 wr => ∃ (m : Nat × PJ) (i : Int), v5 = .pointer (some ⟨m.1, 0, none⟩) ∧ v6 = .int .i64 i ∧ 1 ≤ i ∧ i ≤ n ∧ Aside0 (m = bestOf l x0 (r.take (i.toNat - 1))) ∧ Aside0 (Below w.heap.size w wr)) (fun _ v _ => n - (intOf v).toNat)
  case atStart => exact ⟨x0, 1, rfl, rfl, by omega, by omega, ⟨rfl⟩, ⟨Below.refl _ _⟩⟩
  case round =>
    obtain ⟨m, i, rfl, rfl, i0, i1, HM, HB⟩ := hrel
    by_cases hi : i < n
    · have hil : i.toNat - 1 < r.length := by have := HN.out; omega
      have hx : (x0 :: r)[i.toNat]? = some r[i.toNat - 1] := by
        have e : ∀ q, q + 1 = i.toNat → (x0 :: r)[i.toNat]? = r[q]? := fun q hq => by rw [← hq, List.getElem?_cons_succ]
        rw [e (i.toNat - 1) (by omega), List.getElem?_eq_getElem hil]
      have x1 : wr.cell? ⟨g, i.toNat, none⟩ = some (.pointer (some ⟨r[i.toNat - 1].1, 0, none⟩)) := pw_cell_below HB.out (HC.out _ _ hx)
      have hmem : r[i.toNat - 1] ∈ x0 :: r := List.mem_cons_of_mem _ (List.getElem_mem _)
      have hm2 : m ∈ x0 :: r := by
        rw [HM.out]
        rcases List.mem_cons.1 (bestOf_mem l (r.take (i.toNat - 1)) x0) with h | h
        · rw [h]; exact List.mem_cons_self
        · exact List.mem_cons_of_mem _ (List.mem_of_mem_take h)
      have htk : bestOf l x0 (r.take ((i + 1).toNat - 1)) = if cmpV l r[i.toNat - 1].2 m.2 < 0 then r[i.toNat - 1] else m := by
        rw [show (i + 1).toNat - 1 = (i.toNat - 1) + 1 by omega, List.take_succ_eq_append_getElem hil]
        unfold bestOf
        rw [List.foldl_append]
        have := HM.out
        unfold bestOf at this
        rw [← this]
        rfl
      have HTK := Aside0.mk htk
      obtain ⟨q1, q2⟩ := HQ.out _ hmem
      obtain ⟨m1, m2⟩ := HQ.out _ hm2
      generalize r[i.toNat - 1] = y at x1 q1 q2 HTK
      have Q1 := Aside0.mk q1
      have Q2 := Aside0.mk q2
      have M1 := Aside0.mk m1
      have M2 := Aside0.mk m2
      clear q1 q2 m1 m2 hx hmem hm2 htk
      go_wp2_with fail
      refine (cmpJobs.calls A c l mb y.1 m.1 b3 b9 y.2 m.2 wr (Kd.C_below HR.out HB.out) hc HV.out (map_below HO.out HB.out) ((HB.out.block y.1 (blk_lt Q1.out)).trans Q1.out) ((HB.out.block m.1 (blk_lt M1.out)).trans M1.out) Q2.out M2.out (pw_cell_below HB.out H3.out) (pw_cell_below HB.out H9.out)).mono ?_
      rintro e w1 ⟨rfl, hb1⟩
      have x2 := pw_cell_below hb1 x1
      have HB1 := Aside0.mk (below_step HB.out hb1)
      clear hb1
      generalize cmpV l y.2 m.2 = cv at HTK ⊢
      by_cases hcv : cv < 0
      · have h := HTK.out
        rw [if_pos hcv] at h
        have H := Aside0.mk h
        clear h
        go_wp2
        exact ⟨⟨y, i + 1, rfl, rfl, by omega, by omega, ⟨H.out.symm⟩, HB1⟩, by simp [intOf]; omega⟩
      · have h := HTK.out
        rw [if_neg hcv] at h
        have H := Aside0.mk h
        clear h
        go_wp2
        exact ⟨⟨m, i + 1, rfl, rfl, by omega, by omega, ⟨H.out.symm⟩, HB1⟩, by simp [intOf]; omega⟩
    · obtain rfl : i = n := by omega
      have hm : m = bestOf l x0 r := by
        have h := HM.out
        rw [show ((n : Int)).toNat - 1 = r.length by have := HN.out; omega, List.take_length] at h
        exact h
      have H := Aside0.mk hm
      clear hm
      go_wp2
      go_ret
      exact ⟨by rw [← H.out]; rfl, HB.out⟩

end Go.Proofs.Ytcmifojplgmgkaa.P
