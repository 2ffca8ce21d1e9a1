-- written by wip/drive.py (a driver of this session's own over the kit's print.py)
import Derived.RangeFuncNested
import Derived.RangeFuncBound
import Derived.RangeFuncCalls
import Derived.RangeFuncLeaves
import Derived.RangeFuncBox
import Derived.Shelf.Abstract
import Derived.OwnWalkIn
import Derived.TacticsInMore
import Derived.LoopNIn
import Derived.LoopIn
import Derived.Maps.OwnIn
import Derived.Maps.OwnOps
import Derived.Maps.Views
import Derived.Test.YtcmifojplgmgkaaP0
import Derived.Test.YtcmifojplgmgkaaP3
namespace Go.Proofs.Ytcmifojplgmgkaa.P
open Go.RowKit Go.Proofs.YtcmifojplgmgkaaW.PrintWords Go.Proofs.YtcmifojplgmgkaaW.PrintLast Go.Proofs.YtcmifojplgmgkaaW.PrintMore
attribute [local go_sem] max2_int min2_int max_two min_two max_three min_three max_four min_four   -- for this text's walks alone
set_option linter.unusedVariables false
set_option linter.unusedSimpArgs false

-- PLUG
/-! ### ceiling_Ceilings (function 36): by hand: a range over slices.Backward that fills a map -/
section Backward
open Go.Shelf
attribute [local go_sem] Oper.semAt_some
/-- A task as it is handed to a round: its index, what it reads as, where its sections lie. -/
structure Row49 where
  i : Int
  t : S49
  A : Option Addr
  c : Nat
def Row49.enc (x : Row49) : Array Value := #[.int .i64 x.i, .agg #[.int .i64 x.t.f0, .int .i64 x.t.f1, .int .i64 x.t.f2, .slice x.A x.t.f3.length x.c]]
def rowOf (l : List S49) (g : Int → Option Addr × Nat) (i : Int) : Row49 := ⟨i, rd_T49 l i, (g i).1, (g i).2⟩
def Cells49 (w : World) (ad : Addr) (l : List S49) (g : Int → Option Addr × Nat) : Prop := ∀ i : Int, 0 ≤ i → i < l.length →
  w.cell? (ad.add (i.toNat * 4)) = some (.int .i64 (rd_T49 l i).f0) ∧ w.cell? ⟨(ad.add (i.toNat * 4)).block, (ad.add (i.toNat * 4)).off + 1, none⟩ = some (.int .i64 (rd_T49 l i).f1) ∧
  w.cell? ⟨(ad.add (i.toNat * 4)).block, (ad.add (i.toNat * 4)).off + 2, none⟩ = some (.int .i64 (rd_T49 l i).f2) ∧ w.cell? ⟨(ad.add (i.toNat * 4)).block, (ad.add (i.toNat * 4)).off + 3, none⟩ = some (.slice (g i).1 (rd_T49 l i).f3.length (g i).2) ∧
  (rd_T49 l i).f3.length ≤ (g i).2 ∧ k68.C w (g i).1 (rd_T49 l i).f3.length (rd_T49 l i).f3
theorem cells49_of {w : World} {A : Option Addr} {l : List S49} (h : Kd.C k49 w A l.length l) : ∃ g, ∀ i : Int, 0 ≤ i → i < l.length → ∃ ad, A = some ad ∧ Cells49 w ad l g := by
  have h1 : ∀ i : Int, ∃ p : Option Addr × Nat, 0 ≤ i → i < l.length → ∃ ad, A = some ad ∧
      (w.cell? (ad.add (i.toNat * 4)) = some (.int .i64 (rd_T49 l i).f0) ∧ w.cell? ⟨(ad.add (i.toNat * 4)).block, (ad.add (i.toNat * 4)).off + 1, none⟩ = some (.int .i64 (rd_T49 l i).f1) ∧
      w.cell? ⟨(ad.add (i.toNat * 4)).block, (ad.add (i.toNat * 4)).off + 2, none⟩ = some (.int .i64 (rd_T49 l i).f2) ∧ w.cell? ⟨(ad.add (i.toNat * 4)).block, (ad.add (i.toNat * 4)).off + 3, none⟩ = some (.slice p.1 (rd_T49 l i).f3.length p.2) ∧
      (rd_T49 l i).f3.length ≤ p.2 ∧ k68.C w p.1 (rd_T49 l i).f3.length (rd_T49 l i).f3) := by
    intro i
    by_cases h0 : 0 ≤ i
    · by_cases hl : i < l.length
      · obtain ⟨ad, A3, c3, hA, x0, x1, x2, x3, x4, x5⟩ := at_T49 h i h0 hl
        exact ⟨(A3, c3), fun _ _ => ⟨ad, hA, x0, x1, x2, x3, x4, x5⟩⟩
      · exact ⟨(none, 0), fun _ h => absurd h hl⟩
    · exact ⟨(none, 0), fun h => absurd h h0⟩
  obtain ⟨g, hg⟩ := Classical.axiomOfChoice h1
  refine ⟨g, fun i h0 hl => ?_⟩
  obtain ⟨ad, hA, _⟩ := hg i h0 hl
  refine ⟨ad, hA, fun j k0 kl => ?_⟩
  obtain ⟨ad', hA', hx⟩ := hg j k0 kl
  rw [hA] at hA'
  injection hA' with e
  subst e
  exact hx
/-- What has come when k rounds are over: f 0, .., f (k - 1). -/
def uptoR {α : Type} (f : Nat → α) (k : Nat) : List α := (List.range k).map f
theorem uptoR_succ {α : Type} (f : Nat → α) (k : Nat) : uptoR f (k + 1) = uptoR f k ++ [f k] := by simp [uptoR, List.range_succ]
theorem uptoR_length {α : Type} (f : Nat → α) (k : Nat) : (uptoR f k).length = k := by simp [uptoR]
/-- The tasks from the last to the first. -/
def backs {α : Type} (l : List S49) (fx : Int → α) (k : Nat) : List α := uptoR (fun j => fx ((l.length : Int) - 1 - j)) k

/-- What a round keeps: all that lay below B, and the box of the slice. -/
def KeepB (B Bs : Nat) (W W' : World) : Prop := Below B W W' ∧ ∀ v, W.cell? ⟨Bs, 0, none⟩ = some v → W'.cell? ⟨Bs, 0, none⟩ = some v
theorem keepB_t {B Bs : Nat} {X Y Z : World} (h : KeepB B Bs X Y) (k : KeepB B Bs Y Z) : KeepB B Bs X Z := ⟨h.1.trans k.1, fun v hv => k.2 v (h.2 v hv)⟩
theorem keepB_b {B Bs : Nat} {w : World} (hn : B ≤ w.heap.size) (W : World) (l : Nat) (o o' : Obj) (hl : w.heap.size ≤ l) (h : W.heap[l]? = some o) (hc : o.isCells = false) (hw : o.isWalk = false) : KeepB B Bs W (W.putObj l o') :=
  ⟨belowK_b hn W l o o' hl h hc hw, fun _ hv => cell_kept hv (grownBy_putObj' W l o') (fun r e => by cases e; exact ⟨o, h, hc⟩)⟩
theorem keepB_refl (B Bs : Nat) (W : World) : KeepB B Bs W W := ⟨Below.refl _ _, fun _ h => h⟩
set_option maxRecDepth 100000 in
set_option maxHeartbeats 4000000 in
/-- slices.Backward's closure, for every loop body that keeps what lay below w's size. -/
theorem backward1_in {α : Type} (ex : α → Row49) (fx : Int → α) (F : Fence) (n : Nat) (h65 : F.fn 65) (hro : F.round = none) (hn : 1 ≤ n) (lp Bs : Nat) (w : World) (A : Option Addr) (c : Nat) (l : List S49) (g : Int → Option Addr × Nat) (hl20 : l.length ≤ 20)
    (hg : ∀ i : Int, 0 ≤ i → i < l.length → ∃ ad, A = some ad ∧ Cells49 w ad l g) (he : ∀ i : Int, 0 ≤ i → i < l.length → ex (fx i) = rowOf l g i) (J Jx : List α → World → Prop)
    (hY : ∀ pre x W, J pre W → pre.length < l.length → YieldAt F (n - 1) Try.prog lp (Row49.enc (ex x)) W fun e W' =>
      (e = .returned (.bool true) ∧ J (pre ++ [x]) W' ∧ KeepB w.heap.size Bs W W') ∨ (e = .returned (.bool false) ∧ Jx (pre ++ [x]) W'))
    (W : World) (hW : Below w.heap.size w W) (hBs : W.cell? ⟨Bs, 0, none⟩ = some (.slice A l.length c)) (h0 : J [] W) :
    CallsIn F n Try.prog 65 #[.func (.yield lp) #[] #[], .pointer (some ⟨Bs, 0, none⟩)] W fun e W' => (∃ v, e = .returned v) ∧
      ((∃ ys, ys = backs l fx l.length ∧ J ys W') ∨ (∃ pre, (∃ k, k ≤ l.length ∧ pre = backs l fx k) ∧ Jx pre W')) := by
  have hu49 := Try.underlying49
  have HG := Aside0.mk hg
  have HBS := Aside0.mk hBs
  have HW := Aside0.mk hW
  clear hg hW
  refine callsIn_of_wp Try.func65 rfl h65 ?_ hro
  simp only [Try.ntmps65, List.size_toArray, List.length_cons, List.length_nil, Nat.reduceAdd, Nat.reduceSub, Array.replicate_succ, Array.replicate_zero, List.push_toArray, List.append_toArray, List.nil_append, List.cons_append]
  gi_wp2
  clear hBs
  gi_loopw [3] (fun v wr => ∃ i : Int, -1 ≤ i ∧ i < l.length ∧ v = .int .i64 i ∧ J (backs l fx ((l.length : Int) - 1 - i).toNat) wr ∧ Aside0 (KeepB w.heap.size Bs W wr))
    (fun v _ => (intOf v + 1).toNat)
  case atStart => exact ⟨(l.length : Int) - 1, by omega, by omega, rfl, by rw [show ((l.length : Int) - 1 - ((l.length : Int) - 1)).toNat = 0 by omega]; exact h0, ⟨keepB_refl _ _ _⟩⟩
  case round =>
    obtain ⟨i, hi0, hi1, rfl, hJs, HNX⟩ := hrel
    by_cases hlt : 0 ≤ i
    · obtain ⟨fn, tmps, assign, body, hy, hR⟩ := hY _ (fx i) wr hJs (by unfold backs; rw [uptoR_length]; omega)
      obtain ⟨ad, hA, hx⟩ := HG.out i hlt hi1
      obtain ⟨x0, x1, x2, x3, _, _⟩ := hx i hlt hi1
      subst hA
      have hb := HW.out.trans HNX.out.1
      replace x0 := (hb.cell (World.block_lt_of_cell? w _ x0)).trans x0
      replace x1 := (hb.cell (World.block_lt_of_cell? w _ x1)).trans x1
      replace x2 := (hb.cell (World.block_lt_of_cell? w _ x2)).trans x2
      replace x3 := (hb.cell (World.block_lt_of_cell? w _ x3)).trans x3
      have hs := HNX.out.2 _ HBS.out
      clear hb
      rw [he i hlt hi1] at hy
      unfold Row49.enc rowOf at hy
      dsimp only at hy
      gi_wp2
      refine hR.mono ?_
      rintro e W3 (⟨rfl, hJ3, hk3⟩ | ⟨rfl, hJx3⟩)
      · have HN3 := Aside0.mk (keepB_t HNX.out hk3)
        clear hk3 x0 x1 x2 x3 hs hy
        gi_wp2
        go_roundw
        case rel => exact ⟨i - 1, by omega, by omega, rfl, by
          have e1 : ((l.length : Int) - 1 - (i - 1)).toNat = ((l.length : Int) - 1 - i).toNat + 1 := by omega
          rw [e1]
          unfold backs at hJ3 ⊢
          rw [uptoR_succ, show (l.length : Int) - 1 - ((((l.length : Int) - 1 - i).toNat : Nat) : Int) = i by omega]
          exact hJ3, HN3⟩
        case measure => simp [intOf]; omega
      · clear x0 x1 x2 x3 hs hy
        gi_wp2
        refine bodyPost_ret (results_none rfl _ _ _) rfl ?_
        refine ⟨⟨_, rfl⟩, .inr ⟨_, ⟨((l.length : Int) - 1 - i).toNat + 1, by omega, rfl⟩, ?_⟩⟩
        unfold backs at hJx3 ⊢
        rw [uptoR_succ, show (l.length : Int) - 1 - ((((l.length : Int) - 1 - i).toNat : Nat) : Int) = i by omega]
        exact hJx3
    · gi_wp2
      go_end0
      rw [show ((l.length : Int) - 1 - i).toNat = l.length by omega] at hJs
      exact ⟨⟨_, rfl⟩, .inl hJs⟩
set_option maxHeartbeats 1000000 in
/-- slices.Backward(s): the slice is boxed; the function value captures the box. -/
theorem backward_in (F : Fence) (n : Nat) (h58 : F.fn 58) (hro : F.round = none) (A : Option Addr) (len cap : Nat) (w : World) :
    CallsIn F n Try.prog 58 #[.slice A len cap] w fun e w' => e = .returned (.func (.func 65) #[] #[.pointer (some ⟨w.heap.size, 0, none⟩)]) ∧ w' = w.alloc (.cells #[.slice A len cap] 22) := by
  refine callsIn_of_wp Try.func58 rfl h58 ?_ hro
  simp only [Try.ntmps58, List.size_toArray, List.length_cons, List.length_nil, Nat.reduceAdd, Nat.reduceSub, Array.replicate_succ, Array.replicate_zero, List.push_toArray, List.append_toArray, List.nil_append, List.cons_append]
  gi_wp2
  go_ret
  exact ⟨rfl, rfl⟩
theorem backward_stops {α : Type} (ex : α → Row49) (fx : Int → α) (F : Fence) (n : Nat) (h65 : F.fn 65) (hro : F.round = none) (hn : 1 ≤ n) (Bs : Nat) (w W0 : World) (A : Option Addr) (c : Nat) (l : List S49) (g : Int → Option Addr × Nat) (hl20 : l.length ≤ 20)
    (hg : ∀ i : Int, 0 ≤ i → i < l.length → ∃ ad, A = some ad ∧ Cells49 w ad l g) (he : ∀ i : Int, 0 ≤ i → i < l.length → ex (fx i) = rowOf l g i) (hW : Below w.heap.size w W0) (hBn : Bs < W0.heap.size) (hBs : W0.cell? ⟨Bs, 0, none⟩ = some (.slice A l.length c)) :
    SeqStopsK F n Try.prog 65 #[.pointer (some ⟨Bs, 0, none⟩)] (fun x => Row49.enc (ex x)) (KeepB w.heap.size Bs) (fun ys => ys = backs l fx l.length) (fun pre => ∃ k, k ≤ l.length ∧ pre = backs l fx k) l.length W0 := fun lp J Jx W hW0 _ _ hY h0 =>
  backward1_in ex fx F n h65 hro hn lp Bs w A c l g hl20 hg he J Jx hY W (hW.trans (hW0.mono hW.size)) ((hW0.cell (p := ⟨Bs, 0, none⟩) hBn).trans hBs) h0
theorem wf64 {x : Int} (h0 : -9223372036854775808 ≤ x) (h1 : x ≤ 9223372036854775807) : (Lit.int .i64 x).wf = true := by
  simp only [Lit.wf, Bool.and_eq_true, decide_eq_true_eq]
  exact ⟨h0, h1⟩
theorem cell_new_ {W : World} {a : Addr} {v : Value} (o : Obj) (h : W.cell? a = some v) : (W.alloc o).cell? a = some v := pw_cell_below ((Below.refl _ W).alloc (Nat.le_refl _) _) h
theorem cell_grown_ {X Y : World} {b : Nat} {p : Addr} {v : Value} (hg : X.grownBy Y (some b)) (hne : p.block ≠ b) (h : X.cell? p = some v) : Y.cell? p = some v :=
  (World.cell?_of_block (hg.block p.block (World.block_lt_of_cell? X p h) (by simpa using hne))).trans h
/-! the map -/
/-- One section more. -/
def putS {H : Type} (i : Int) (D : DataW H) (s : S68) : DataW H := D.put (.int .i64 s.f0) (.lit (.int .i64 i))
def putT {H : Type} (D : DataW H) (x : Row49) : DataW H := x.t.f3.foldl (putS x.i) D
/-- What the map reads as when these tasks have come. -/
def ceilD {H : Type} (xs : List Row49) : DataW H := xs.foldl putT (.map [])
theorem ceilD_snoc {H : Type} (pre : List Row49) (x : Row49) : ceilD (H := H) (pre ++ [x]) = putT (ceilD pre) x := by simp [ceilD]
def valsR {w : World} {p : World → Row49 → Prop} (pre : List {x : Row49 // p w x}) : List Row49 := pre.map Subtype.val
theorem valsR_snoc {w : World} {p : World → Row49 → Prop} (pre : List {x : Row49 // p w x}) (x : {x : Row49 // p w x}) : valsR (pre ++ [x]) = valsR pre ++ [x.1] := by simp [valsR]
/-- The tasks from the last to the first, what they read as alone counts. -/
def putT' {H : Type} (D : DataW H) (i : Int) (t : S49) : DataW H := t.f3.foldl (putS i) D
def ceilL {H : Type} (l : List S49) (k : Nat) : DataW H := (List.range k).foldl (fun (D : DataW H) (j : Nat) => putT' D ((l.length : Int) - 1 - j) (rd_T49 l ((l.length : Int) - 1 - j))) (.map [])
theorem ceilD_backs {H : Type} {w : World} {p : World → Row49 → Prop} (l : List S49) (g : Int → Option Addr × Nat) (fx : Int → {x : Row49 // p w x}) (hfx : ∀ i : Int, 0 ≤ i → i < l.length → (fx i).1 = rowOf l g i) : ∀ k, k ≤ l.length → ceilD (H := H) (valsR (backs l fx k)) = ceilL l k := by
  intro k
  induction k with
  | zero => intro _; rfl
  | succ k ih =>
    intro hk
    unfold backs ceilL at *
    rw [uptoR_succ, valsR_snoc, ceilD_snoc, ih (by omega), hfx _ (by omega) (by omega), List.range_succ, List.foldl_append]
    rfl
/-- What a round may know of a task that it is handed. -/
def RowOk (w : World) (x : Row49) : Prop := (Lit.int .i64 x.i).wf = true ∧ x.t.f3.length ≤ 8 ∧ x.t.f3.length ≤ x.c ∧ k68.C w x.A x.t.f3.length x.t.f3 ∧ ∀ s ∈ x.t.f3, (Lit.int .i64 s.f0).wf = true
set_option maxRecDepth 100000 in
set_option maxHeartbeats 4000000 in
theorem ceil_in (F : Fence) (n : Nat) (k : Nat) (h36 : F.fn 36) (h20 : F.fn 20) (h58 : F.fn 58) (h65 : F.fn 65) (hro : F.round = none) (hn : 6 ≤ n) (A : Option Addr) (c : Nat) (l : List S49) (w : World) (hr : Kd.C k49 w A l.length l) (hcap : l.length ≤ c) (hl20 : l.length ≤ 20)
    (hok : ∀ i : Int, 0 ≤ i → i < l.length → (rd_T49 l i).f3.length ≤ 8 ∧ ∀ s ∈ (rd_T49 l i).f3, (Lit.int .i64 s.f0).wf = true)
    (hV : ∀ w' : World, Kd.C k49 w' A l.length l → CallsIn F (n - 1) Try.prog 20 #[.slice A l.length c] w' fun e w'' => e = .returned (.bool true) ∧ Below w'.heap.size w' w'') :
    CallsIn F n Try.prog 36 #[.slice A l.length c] w fun e W' => e = .returned (.map (some w.heap.size)) ∧ W'.ownsMap Try.prog 3 (plainElem (H := Unit) Try.prog 3) w.heap.size (8 * l.length) (ceilL l l.length) ∧ Below w.heap.size w W' := by
  have h1 : 1 ≤ n := by omega
  have hmm := @run_makeMap Try.prog
  have hu49 := Try.underlying49
  have HR := Aside0.mk hr
  have HV := Aside0.mk hV
  clear hr hV
  refine callsIn_of_wp_marks Try.func36 rfl h36 ?_ hro
  simp only [Try.ntmps36, List.size_toArray, List.length_cons, List.length_nil, Nat.reduceAdd, Nat.reduceSub, Array.replicate_succ, Array.replicate_zero, List.push_toArray, List.append_toArray, List.nil_append, List.cons_append]
  gi_wp2_with fail
  obtain ⟨W1, hW1⟩ : ∃ W1, W1 = (w.alloc (.map #[] 0)).alloc (.cells #[.map (some w.heap.size)] 65) := ⟨_, rfl⟩
  have hb1 : Below w.heap.size w W1 := by rw [hW1]; exact ((Below.refl _ w).alloc (Nat.le_refl _) _).alloc (by simp) _
  have bS : Boxed W1 (w.heap.size + 1) 65 (.map (some w.heap.size)) := by
    have := Boxed.new (w.alloc (.map #[] 0)) 65 (.map (some w.heap.size))
    rw [World.size_alloc] at this
    rw [hW1]; exact this
  have hm0 : W1.ownsMap Try.prog 3 (plainElem (H := Unit) Try.prog 3) w.heap.size 0 (.map []) := by rw [hW1]; exact (World.ownsMap_made w Try.prog 3 (plainElem (H := Unit) Try.prog 3)).alloc _
  have hs1 : W1.heap.size = w.heap.size + 2 := by rw [hW1]; simp
  rw [← hW1]
  refine (HV.out W1 (Kd.C_below HR.out hb1)).mono ?_
  rintro e w2 ⟨rfl, hb2⟩
  have hB2 := below_step hb1 hb2
  have bS2 : Boxed w2 (w.heap.size + 1) 65 (.map (some w.heap.size)) := blk_below bS hb2
  have hm2 := hm0.kept (grown_of_below hb2 none) (by simp)
  have hs2 : w.heap.size + 2 ≤ w2.heap.size := by have := hb2.size; omega
  clear hb2 hm0 bS hb1 hs1 hW1
  have HB2 := Aside0.mk hB2
  have HS2 := Aside0.mk bS2
  have HM2 := Aside0.mk hm2
  clear hB2 bS2 hm2
  gi_wp2_with fail
  refine (backward_in F (n - 1) h58 hro A l.length c w2).mono ?_
  rintro e w3 ⟨rfl, rfl⟩
  gi_wp2
  obtain ⟨g, hg⟩ := cells49_of HR.out
  have hrow : ∀ i : Int, 0 ≤ i ∧ i < l.length → RowOk w (rowOf l g i) := by
    rintro i ⟨h0, hi⟩
    obtain ⟨ad, hA, hx⟩ := hg i h0 hi
    obtain ⟨_, _, _, _, x4, x5⟩ := hx i h0 hi
    obtain ⟨o1, o2⟩ := hok i h0 hi
    exact ⟨wf64 (show -9223372036854775808 ≤ i by omega) (show i ≤ 9223372036854775807 by omega), o1, x4, x5, o2⟩
  have hdef : RowOk w ⟨0, z49, none, 0⟩ := ⟨by decide, by decide, by decide, ⟨rfl, by decide, fun h => absurd h (by decide)⟩, by simp [z49]⟩
  obtain ⟨fx, hfx⟩ : ∃ fx : Int → {x : Row49 // RowOk w x}, ∀ i : Int, 0 ≤ i → i < l.length → (fx i).1 = rowOf l g i := by
    refine ⟨fun i => if h : 0 ≤ i ∧ i < l.length then ⟨rowOf l g i, hrow i h⟩ else ⟨⟨0, z49, none, 0⟩, hdef⟩, fun i h0 h1 => ?_⟩
    dsimp only
    rw [dif_pos ⟨h0, h1⟩]
  have hsz : (w2.alloc (.cells #[.slice A l.length c] 22)).heap.size = w2.heap.size + 1 := by simp
  have hB3 : Below w.heap.size w (w2.alloc (.cells #[.slice A l.length c] 22)) := HB2.out.alloc (by omega) _
  have bN := Boxed.new w2 22 (.slice A l.length c)
  have bS3 := HS2.out.alloc (.cells #[.slice A l.length c] 22)
  have hm3 := HM2.out.alloc (.cells #[.slice A l.length c] 22)
  obtain ⟨W0, hW0⟩ : ∃ W0, w2.alloc (.cells #[.slice A l.length c] 22) = W0 := ⟨_, rfl⟩
  rw [hW0] at hsz hB3 bN bS3 hm3 ⊢
  have HSZ := Aside0.mk hsz
  have hszle : w2.heap.size < W0.heap.size := by omega
  clear hW0 HB2 HS2 HM2 hrow hdef hsz
  refine wpIn_rangeFunc_ownH hro h1 (gf := 65) (lb := #[.pointer (some ⟨w2.heap.size, 0, none⟩)]) rfl h65 (enters_of Try.func65 (by kernel_rfl) rfl)
    (backward_stops Subtype.val fx F (n - 1) h65 hro (by omega) w2.heap.size w W0 A c l g hl20 hg hfx hB3 (by omega) bN.cell) keepB_t (keepB_b (by omega)) (Below.refl _ _) (fun _ => rfl)
    (fun pre W => (W.cell? ⟨w.heap.size + 1, 0, none⟩ = some (.map (some w.heap.size)) ∧ W.ownsMap Try.prog 3 (plainElem (H := Unit) Try.prog 3) w.heap.size (8 * pre.length) (ceilD (valsR pre))) ∧ Below w.heap.size w W)
    (fun _ _ _ => False)
    (OwnFrom.and (fun s A B row hs hg hr => ⟨cell_kept hs.1 hg (fun r e => (hr r e).2), hs.2.kept hg (fun e => by have := (hr _ e.symm).1; omega)⟩) (ownFrom_below (Nat.le_refl _) (by omega)))
    (fun _ _ _ _ _ hs _ _ => hs)
    ⟨⟨bS3.cell, hm3⟩, hB3⟩
    (fun x a' W => ∃ Bx, w.heap.size + 1 < Bx ∧ W.cell? ⟨Bx, 3, none⟩ = some (.slice x.1.A x.1.t.f3.length x.1.c) ∧ a' = { tmps := #[.slice A l.length c, undef, .map none, .pointer (some ⟨w.heap.size + 1, 0, none⟩), .int .i64 x.1.i, .pointer (some ⟨Bx, 0, none⟩), undef, undef, .map (some w.heap.size), .slice A l.length c, .bool true, .bool false, undef, .slice A l.length c, .func (.func 65) #[] #[.pointer (some ⟨w2.heap.size, 0, none⟩)], .int .i64 x.1.i, .agg #[.int .i64 x.1.t.f0, .int .i64 x.1.t.f1, .int .i64 x.1.t.f2, .slice x.1.A x.1.t.f3.length x.1.c], undef, undef, undef, undef, undef, undef, undef, undef, undef, undef, undef, undef, undef], defers := [] })
    (fun x a' _ X Y row hs hg hr => by obtain ⟨Bx, h1, h2, h3⟩ := hs; exact ⟨Bx, h1, cell_kept h2 hg (fun r e => (hr r e).2), h3⟩)
    ?assign ?body ?done ?stop
  case assign =>
    rintro lp pre x W K ⟨⟨hc, hown⟩, hB⟩ hK
    have hsB := hB.size
    have hlt : w.heap.size + 1 < W.heap.size := World.block_lt_of_cell? W _ hc
    unfold Row49.enc
    gi_wp2
    refine hK _ _ ((KeepsOthers.alloc _ _).from _) ⟨(Below.refl _ W).alloc hsB _, fun v hv => cell_new_ _ hv⟩ ⟨⟨cell_new_ _ hc, hown.alloc _⟩, hB.alloc hsB _⟩ ⟨W.heap.size, hlt, ?_, rfl⟩
    simp [go_sem]
  case body =>
    rintro lp pre x a' W hl ⟨r, hr⟩ ⟨⟨hc, hown⟩, hB⟩ ⟨Bx, hBx, hx3, rfl⟩ hlt
    obtain ⟨q1, q2, q3, q4, q5⟩ := x.2
    have HC := Aside0.mk hc
    have HO := Aside0.mk hown
    have HB := Aside0.mk hB
    have Q4 := Aside0.mk q4
    have Q5 := Aside0.mk q5
    clear hc hown hB q4 q5
    gi_wp2
    clear hx3
    gi_loopw [20] (fun v wr => ∃ j : Int, 0 ≤ j ∧ j ≤ x.1.t.f3.length ∧ v = .int .i64 j ∧ Aside0 (KeepsFrom W0.heap.size W wr ∧ KeepB w.heap.size w2.heap.size W wr ∧ wr.cell? ⟨w.heap.size + 1, 0, none⟩ = some (.map (some w.heap.size)) ∧
        wr.ownsMap Try.prog 3 (plainElem (H := Unit) Try.prog 3) w.heap.size (8 * pre.length + j.toNat) ((x.1.t.f3.take j.toNat).foldl (putS x.1.i) (ceilD (valsR pre)))))
      (fun v _ => x.1.t.f3.length - (intOf v).toNat)
    case atStart => exact ⟨0, by omega, by omega, rfl, ⟨KeepsFrom.refl _ _, keepB_refl _ _ _, HC.out, by simpa using HO.out⟩⟩
    case round =>
      obtain ⟨j, hj0, hj1, rfl, HR⟩ := hrel
      by_cases hj : j < x.1.t.f3.length
      · obtain ⟨ad, hA, y0, y1, y2⟩ := at_T68 (Kd.C_below Q4.out (HB.out.trans HR.out.2.1.1)) j hj0 hj
        have hcm := HR.out.2.2.1
        have hown := HR.out.2.2.2
        have hsB := (HB.out.trans HR.out.2.1.1).size
        have hlo : w.heap.size + 1 < wr.heap.size := World.block_lt_of_cell? wr _ hcm
        have hkey : (Lit.int .i64 (rd_T68 x.1.t.f3 j).f0).wf = true := Q5.out _ (by
          unfold rd_T68
          rw [List.getD_eq_getElem?_getD, List.getElem?_eq_getElem (show j.toNat < x.1.t.f3.length by omega)]
          exact List.getElem_mem _)
        have hkey' := Maps.keyOf_int_mk Try.underlying3 hkey
        have hxs : x.1.t.f3.take (j.toNat + 1) = x.1.t.f3.take j.toNat ++ [rd_T68 x.1.t.f3 j] := by
          rw [List.take_succ_eq_append_getElem (show j.toNat < x.1.t.f3.length by omega)]
          unfold rd_T68
          rw [List.getD_eq_getElem?_getD, List.getElem?_eq_getElem (show j.toNat < x.1.t.f3.length by omega)]
          rfl
        have HXS := Aside0.mk hxs
        have HQ1 := Aside0.mk q1
        have HA := Aside0.mk hA
        have hlen : 8 * pre.length + j.toNat < maxLen := by unfold maxLen; omega
        clear hA hxs hkey
        generalize hnb : 8 * pre.length + j.toNat = nb at hown hlen
        have HNB := Aside0.mk hnb
        clear hnb
        rw [HA.out]
        gi_wp2_with (gi_at_mapUpdate; refine wpListIn_mapUpdate_own _ rfl _ _ _ 65 rfl 3 3 (Maps.int_keyed Try.underlying3) Try.underlying65 _ w.heap.size nb _ rfl (hown.alloc _) hlen _ _ _ rfl rfl hkey' _ [] (plainElem_int Try.underlying3 HQ1.out) ?_; intro w1 hown1 hgrow1)
        have hN := HNB.out
        have hsz1 : w.heap.size < (wr.alloc (.cells #[.int .i64 (rd_T68 x.1.t.f3 j).f0, .int .i64 (rd_T68 x.1.t.f3 j).f1, .int .i64 (rd_T68 x.1.t.f3 j).f2] 68)).heap.size := by simp; omega
        refine ⟨⟨j + 1, by omega, by omega, rfl, ⟨?_, ⟨?_, ?_⟩, ?_, ?_⟩⟩, by simp [intOf]; omega⟩
        · exact (HR.out.1.trans ((KeepsOthers.alloc _ _).from _)).trans (KeepsFrom.of_grownBy hgrow1 (fun j e => by cases e; omega))
        · exact ((HR.out.2.1.1).alloc hsB _).grown hgrow1 (by omega) (fun k e => by cases e; exact Nat.le_refl _)
        · exact fun v hv => cell_grown_ hgrow1 (by show w2.heap.size ≠ w.heap.size; omega) (cell_new_ _ (HR.out.2.1.2 v hv))
        · exact cell_grown_ hgrow1 (by show w.heap.size + 1 ≠ w.heap.size; omega) (cell_new_ _ hcm)
        · rw [show (j + 1).toNat = j.toNat + 1 by omega, HXS.out, List.foldl_append, show 8 * pre.length + (j.toNat + 1) = nb + 1 by omega]
          exact hown1
      · obtain rfl : j = x.1.t.f3.length := by omega
        gi_wp2
        have h4 := HR.out.2.2.2
        rw [Int.toNat_natCast, List.take_length] at h4
        refine ⟨HR.out.1, HR.out.2.1, ⟨HR.out.2.2.1, ?_⟩, HB.out.trans HR.out.2.1.1⟩
        rw [valsR_snoc, ceilD_snoc, List.length_append, List.length_singleton]
        exact h4.mono (by omega)
  case done =>
    rintro D ys W hD rfl ⟨⟨hc, hown⟩, hB⟩ hK
    gi_wp2
    refine ⟨by simp, .inl ⟨_, _, rfl, run_takeDeferred hK, ?_⟩⟩
    rw [ceilD_backs l g fx hfx l.length (Nat.le_refl _), show (backs l fx l.length).length = l.length from uptoR_length _ _] at hown
    exact ⟨_, results_tmp rfl _ _ _, rfl, hown.kept (grownBy_putObj' _ D _) (fun e => by cases e; omega), hB.trans (belowK_b (w := w) (Nat.le_refl _) W D _ _ (by omega) hK rfl rfl)⟩
  case stop =>
    rintro D c pre W _ _ h _
    exact h.elim
end Backward
/-- What Ceilings leaves: a new map, the world's next block. -/
def CeilPost (n : Nat) (D : DataW Unit) (w : World) (e : Ending) (w' : World) : Prop :=
  e = .returned (.map (some w.heap.size)) ∧ w'.ownsMap Try.prog 3 (plainElem (H := Unit) Try.prog 3) w.heap.size n D ∧ Below w.heap.size w w'
theorem ceil_yes (A : Option Addr) (c : Nat) (l : List S49) (w : World) (hr : Kd.C k49 w A l.length l) (hcap : l.length ≤ c) (hv : vld l = true) :
    Calls Try.prog 36 #[.slice A l.length c] w (CeilPost (8 * l.length) (ceilL l l.length) w) := by
  obtain ⟨h20, hall⟩ := vld_of hv
  refine callsIn_wide.1 (ceil_in Fence.wide 6 40 trivial trivial trivial trivial rfl (Nat.le_refl _) A c l w hr hcap h20 (fun i h0 h1 => ?_) (fun w' hr' => callsIn_wide.2 (ceiling_Valid.calls 40 A c l true w' hr' hcap (by rw [cvalid_eq (Nat.le_refl _), hv]))))
  obtain ⟨_, _, _, _, _, _, k7, k8⟩ := vldT_of (hall _ (rd49_mem h0 h1))
  exact ⟨k7, fun s hs => by have := secB_obj k8 s hs; exact wf64 (by omega) (by omega)⟩
set_option maxHeartbeats 8000000 in
set_option maxRecDepth 100000 in
theorem ceil_no (A : Option Addr) (c : Nat) (l : List S49) (w : World) (hr : Kd.C k49 w A l.length l) (hcap : l.length ≤ c) (hv : vld l = false) :
    Calls Try.prog 36 #[.slice A l.length c] w (CeilPost 0 (.map []) w) := by
  have hmm := @run_makeMap Try.prog
  have HR := Aside0.mk hr
  have HV := Aside0.mk hv
  clear hr hv
  go_enter Try.func36, Try.ntmps36
  go_wp2_with fail
  obtain ⟨W1, hW1⟩ : ∃ W1, W1 = (w.alloc (.map #[] 0)).alloc (.cells #[.map (some w.heap.size)] 65) := ⟨_, rfl⟩
  have hb1 : Below w.heap.size w W1 := by rw [hW1]; exact ((Below.refl _ w).alloc (Nat.le_refl _) _).alloc (by simp) _
  have bS : W1.cell? ⟨w.heap.size + 1, 0, none⟩ = some (.map (some w.heap.size)) := by
    have := Boxed.new (w.alloc (.map #[] 0)) 65 (.map (some w.heap.size))
    rw [World.size_alloc] at this
    rw [hW1]; exact this.cell
  have hm0 : W1.ownsMap Try.prog 3 (plainElem (H := Unit) Try.prog 3) w.heap.size 0 (.map []) := by rw [hW1]; exact (World.ownsMap_made w Try.prog 3 (plainElem (H := Unit) Try.prog 3)).alloc _
  rw [← hW1]
  refine (ceiling_Valid.calls 40 A c l false W1 (Kd.C_below HR.out hb1) hcap (by rw [cvalid_eq (Nat.le_refl _), HV.out])).mono ?_
  rintro e w2 ⟨rfl, hb2⟩
  have hB2 := below_step hb1 hb2
  have bS2 := pw_cell_below hb2 bS
  have hm2 := hm0.kept (grown_of_below hb2 none) (by simp)
  have HB2 := Aside0.mk hB2
  have HM2 := Aside0.mk hm2
  clear hb2 hb1 hB2 hm2 hm0 bS hW1
  go_wp2
  go_ret
  exact ⟨rfl, HM2.out, HB2.out⟩

end Go.Proofs.Ytcmifojplgmgkaa.P
