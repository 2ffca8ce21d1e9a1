-- written by wip/drive.py (a driver of this session's own over the kit's print.py)
import Derived.Deep.AppendLies
import Derived.Deep.DeepCutAuto
import Derived.Maps.OwnOps
import Derived.Maps.Views
import Derived.Test.YtcmifojplgmgkaaP0
import Derived.Test.YtcmifojplgmgkaaP3
import Derived.Test.YtcmifojplgmgkaaP5
import Derived.Test.YtcmifojplgmgkaaP11
import Derived.Test.YtcmifojplgmgkaaP12
import Derived.Test.YtcmifojplgmgkaaP14
namespace Go.Proofs.Ytcmifojplgmgkaa.P
open Go.RowKit Go.Proofs.YtcmifojplgmgkaaW.PrintWords Go.Proofs.YtcmifojplgmgkaaW.PrintLast Go.Proofs.YtcmifojplgmgkaaW.PrintMore
attribute [local go_sem] max2_int min2_int max_two min_two max_three min_three max_four min_four   -- for this text's walks alone
set_option linter.unusedVariables false
set_option linter.unusedSimpArgs false

-- PLUG
/-! ### ceiling_Simulate (function 21): by hand: pending jobs are shared through pointers -/
def jobOf (p : PJ) : S34 := ⟨p.task, p.rel, p.start, p.fin, p.blk⟩
def fresh (i t : Int) : PJ := ⟨i, t, 0, 0, 0, 0, false⟩
/-- The state of a simulation: how many jobs of each task are released, the waiting ones, the ended ones. -/
structure Sim where
  nx : List Nat
  wt : List PJ
  out : List S34
/-- A task releases its jobs that are due. -/
def relOne (now i : Int) : List Int → Nat → List PJ → Nat × List PJ
  | [], c, W => (c, W)
  | t :: r, c, W => if t ≤ now then relOne now i r (c + 1) (W ++ [fresh i t]) else (c, W)
def relAll (now : Int) : Nat → List (List Int) → List Nat → List PJ → List Nat × List PJ
  | _, [], nx, W => (nx, W)
  | i, t :: r, nx, W => relAll now (i + 1) r (nx.set i (relOne now i (t.drop (nx.getD i 0)) (nx.getD i 0) W).1) (relOne now i (t.drop (nx.getD i 0)) (nx.getD i 0) W).2
/-- The least element of a row, what stands ahead of it, and what behind it. -/
def bsp {α : Type} (lt : α → α → Bool) : List α → α → List α → List α → List α × α × List α
  | pre, m, mid, [] => (pre, m, mid)
  | pre, m, mid, y :: r => if lt y m = true then bsp lt (pre ++ m :: mid) y [] r else bsp lt pre m (mid ++ [y]) r
def ltV (l : List S49) (y m : PJ) : Bool := decide (cmpV l y m < 0)
def runJob (now : Int) (p : PJ) : PJ := { p with began := true, start := if p.began = true then p.start else now, done := p.done + 1 }
def hinder (t : Int) (q : PJ) : PJ := if q.task < t then { q with blk := q.blk + 1 } else q
/-- A unit is executed. -/
def execV (l : List S49) (now : Int) (out : List S34) (nx : List Nat) (b : List PJ × PJ × List PJ) : Sim :=
  if (runJob now b.2.1).done = (rd_T49 l b.2.1.task).f0 then ⟨nx, b.1.map (hinder b.2.1.task) ++ b.2.2.map (hinder b.2.1.task), out ++ [jobOf { runJob now b.2.1 with fin := now + 1 }]⟩
  else ⟨nx, b.1.map (hinder b.2.1.task) ++ runJob now b.2.1 :: b.2.2.map (hinder b.2.1.task), out⟩
def workV (l : List S49) (now : Int) (out : List S34) (D : List Nat × List PJ) : Sim :=
  match D.2 with
  | [] => ⟨D.1, [], out⟩
  | x :: r => execV l now out D.1 (bsp (ltV l) [] x [] r)
def stepV (l : List S49) (rel : List (List Int)) (now : Int) (s : Sim) : Sim := workV l now s.out (relAll now 0 rel s.nx s.wt)
def simGo (l : List S49) (rel : List (List Int)) : Nat → Int → Sim → Sim
  | 0, _, s => s
  | n + 1, now, s => simGo l rel n (now + 1) (stepV l rel now s)
def simV (l : List S49) (rel : List (List Int)) (until_ : Int) : List S34 := (simGo l rel until_.toNat 0 ⟨List.replicate l.length 0, [], []⟩).out
def simOk (l : List S49) (rel : List (List Int)) (a : Int) : Bool := vld l && decide (rel.length = l.length ∧ 0 ≤ a ∧ a ≤ 100000) && rel.all fun r => decide (r.length ≤ 2000)
def ceiling_Simulate.f (k : Nat) (l0 : List (S49)) (l1 : List (List Int)) (a2 : Int) : Option (List S34 × Int) :=
  (ceiling_admit.f k l0 l1 a2).bind fun e => if e = 0 then (if simOk l0 l1 a2 = true then some (simV l0 l1 a2, 0) else none) else some ([], e)
theorem ceiling_Simulate.mono : ∀ a0 a1 a2 k, LeO (ceiling_Simulate.f k a0 a1 a2) (ceiling_Simulate.f (k + 1) a0 a1 a2) := by
  intro a0 a1 a2 k
  unfold ceiling_Simulate.f
  exact LeO.bind (ceiling_admit.mono _ _ _ _) (fun _ => LeO.refl _)
/-! the releases, one at a time -/
theorem relAll_step {now : Int} {i : Nat} {t : List Int} {r : List (List Int)} {nx : List Nat} {W : List PJ} {c : Nat} (hc : nx.getD i 0 = c) (hi : i < nx.length) (hl : c < t.length) (hd : t[c] ≤ now) :
    relAll now i (t :: r) nx W = relAll now i (t :: r) (nx.set i (c + 1)) (W ++ [fresh i t[c]]) := by
  have e : (nx.set i (c + 1)).getD i 0 = c + 1 := by rw [List.getD_eq_getElem?_getD, List.getElem?_set_self hi]; rfl
  unfold relAll
  rw [hc, e, List.drop_eq_getElem_cons hl, List.set_set]
  unfold relOne
  rw [if_pos hd]
  rw [← relOne.eq_def]
theorem relAll_skip {now : Int} {i : Nat} {t : List Int} {r : List (List Int)} {nx : List Nat} {W : List PJ} {c : Nat} (hc : nx.getD i 0 = c) (hi : i < nx.length) (hl : ∀ h : c < t.length, now < t[c]) :
    relAll now i (t :: r) nx W = relAll now (i + 1) r nx W := by
  have e : relOne now i (t.drop c) c W = (c, W) := by
    by_cases h : c < t.length
    · rw [List.drop_eq_getElem_cons h]
      unfold relOne
      rw [if_neg (by have := hl h; omega)]
    · rw [List.drop_of_length_le (by omega)]
      rfl
  show relAll now (i + 1) r _ _ = _
  rw [hc, e]
  have e2 : nx.set i c = nx := by
    apply List.ext_getElem? ; intro q
    by_cases hq : q = i
    · subst hq
      rw [List.getElem?_set_self hi]
      rw [List.getD_eq_getElem?_getD, List.getElem?_eq_getElem hi] at hc
      rw [List.getElem?_eq_getElem hi, ← hc]
      rfl
    · rw [List.getElem?_set_ne (fun h => hq h.symm)]
  rw [show (c, W).1 = c from rfl, e2]
/-! the least, of a row of pairs and of its jobs -/
theorem bsp_map {α β : Type} (f : α → β) (lt : α → α → Bool) (lt' : β → β → Bool) (h : ∀ a b, lt a b = lt' (f a) (f b)) : ∀ (r : List α) (pre : List α) (m : α) (mid : List α),
    bsp lt' (pre.map f) (f m) (mid.map f) (r.map f) = ((bsp lt pre m mid r).1.map f, f (bsp lt pre m mid r).2.1, (bsp lt pre m mid r).2.2.map f)
  | [], _, _, _ => rfl
  | y :: r, pre, m, mid => by
    rw [List.map_cons]
    unfold bsp
    rw [← h]
    split
    · have := bsp_map f lt lt' h r (pre ++ m :: mid) y []
      rw [List.map_append, List.map_cons, List.map_nil] at this
      exact this
    · have := bsp_map f lt lt' h r pre m (mid ++ [y])
      rw [List.map_append, List.map_cons, List.map_nil] at this
      exact this
theorem bsp_split {α : Type} (lt : α → α → Bool) : ∀ (r : List α) (pre : List α) (m : α) (mid : List α), (bsp lt pre m mid r).1 ++ (bsp lt pre m mid r).2.1 :: (bsp lt pre m mid r).2.2 = pre ++ m :: (mid ++ r)
  | [], _, _, _ => by unfold bsp; rw [List.append_nil]
  | y :: r, pre, m, mid => by
    unfold bsp
    split
    · rw [bsp_split lt r]; simp
    · rw [bsp_split lt r]; simp
theorem bsp_best (l : List S49) : ∀ (r pre : List (Nat × PJ)) (m : Nat × PJ) (mid : List (Nat × PJ)), (bsp (fun a b => ltV l a.2 b.2) pre m mid r).2.1 = bestOf l m r
  | [], _, _, _ => rfl
  | y :: r, pre, m, mid => by
    have e : bestOf l m (y :: r) = bestOf l (if cmpV l y.2 m.2 < 0 then y else m) r := rfl
    rw [e]
    unfold bsp ltV
    by_cases h : cmpV l y.2 m.2 < 0
    · rw [if_pos (decide_eq_true h), if_pos h]
      exact bsp_best l r _ _ _
    · rw [if_neg (by simpa using h), if_neg h]
      exact bsp_best l r _ _ _
theorem sum_set1 : ∀ (nx : List Nat) (i c : Nat), nx.getD i 0 = c → i < nx.length → (nx.set i (c + 1)).sum = nx.sum + 1
  | [], _, _, _, h => by simp at h
  | a :: r, 0, c, h, _ => by
    have : a = c := h
    subst this
    simp; omega
  | a :: r, i + 1, c, h, h2 => by
    have := sum_set1 r i c (by simpa using h) (by simpa using h2)
    simp [this]; omega
theorem sum_le (b : Nat) : ∀ (nx : List Nat), (∀ c ∈ nx, c ≤ b) → nx.sum ≤ b * nx.length
  | [], _ => by simp
  | a :: r, h => by
    have := sum_le b r (fun c hc => h c (List.mem_cons_of_mem _ hc))
    have h2 := h a List.mem_cons_self
    rw [List.sum_cons, List.length_cons, Nat.mul_succ]
    omega
/-! the memory -/
def cells34 (j : S34) : List Value := [.int .i64 j.f0, .int .i64 j.f1, .int .i64 j.f2, .int .i64 j.f3, .int .i64 j.f4]
def nums64 (nx : List Nat) : List Value := nx.map fun c : Nat => .int .i64 (c : Int)
/-- Simulate's memory: the boxes of l and of the map, the map, the next releases, the waiting jobs, the ended ones. -/
structure SI (w : World) (l : List S49) (A : Option Addr) (c bl bm mb gn : Nat) (wr : World) (vw vo : Value) (nx : List Nat) (wt : List (Nat × PJ)) (out : List S34) : Prop where
  below : Below w.heap.size w wr
  boxl : wr.heap[bl]? = some (.cells #[.slice A l.length c] 22 (0, 0))
  boxm : wr.heap[bm]? = some (.cells #[.map (some mb)] 65 (0, 0))
  map : wr.ownsMap Try.prog 3 (plainElem (H := Unit) Try.prog 3) mb (8 * l.length) (ceilL l l.length)
  next : wr.ownsRow w.heap.size 3 1 (.slice (some ⟨gn, 0, none⟩) l.length l.length) l.length (nums64 nx)
  wait : wr.ownsRow w.heap.size 80 1 vw wt.length (ptrs (wt.map (·.1)))
  outr : wr.ownsRow w.heap.size 34 5 vo out.length (out.flatMap cells34)
  jobs : ∀ x ∈ wt, w.heap.size ≤ x.1 ∧ wr.heap[x.1]? = some (.cells x.2.cells 82 (0, 0))
  nodup : (wt.map (·.1)).Nodup
/-- Only blocks of cells of type t (of the call's own) may have turned. -/
structure Turn (B : Nat) (t : TypeId) (w w' : World) : Prop where
  os : w'.os = w.os
  tape : w'.tape = w.tape
  output : w'.output = w.output
  size : w.heap.size ≤ w'.heap.size
  block : ∀ k o, w.heap[k]? = some o → (k < B ∨ ∀ cs, o ≠ .cells cs t (0, 0)) → w'.heap[k]? = some o
theorem Turn.of_grown {B : Nat} {t : TypeId} {w w' : World} {row : Option Nat} (h : w.grownBy w' row) (hr : ∀ k, row = some k → B ≤ k ∧ ∃ cs, w.heap[k]? = some (.cells cs t (0, 0))) : Turn B t w w' :=
  ⟨h.os, h.tape, h.output, h.size, fun k o hk hne => by
    refine (h.block k (Array.getElem?_eq_some_iff.1 hk).1 (fun e => ?_)).trans hk
    obtain ⟨h1, cs, h2⟩ := hr k e.symm
    rcases hne with hne | hne
    · omega
    · rw [hk] at h2
      exact hne cs (Option.some.inj h2)⟩
theorem Turn.of_below {B : Nat} {t : TypeId} {w w' : World} (h : Below w.heap.size w w') : Turn B t w w' :=
  ⟨h.os, h.tape, h.output, h.size, fun k o hk _ => (h.block k (Array.getElem?_eq_some_iff.1 hk).1).trans hk⟩
theorem Turn.below {B : Nat} {t : TypeId} {a w w' : World} (h : Turn B t w w') (hb : Below B a w) (hB : B ≤ w.heap.size) : Below B a w' :=
  ⟨h.os.trans hb.os, h.tape.trans hb.tape, h.output.trans hb.output, Nat.le_trans hb.size h.size, fun k hk => by
    obtain ⟨o, ho⟩ : ∃ o, w.heap[k]? = some o := ⟨_, Array.getElem?_eq_getElem (Nat.lt_of_lt_of_le hk hB)⟩
    rw [h.block k o ho (.inl hk), ← ho]
    exact hb.block k hk⟩
theorem Turn.row {B : Nat} {t e : TypeId} {w w' : World} {base size n : Nat} {v : Value} {xs : List Value} (h : Turn B t w w') (hne : e ≠ t) (hr : w.ownsRow base e size v n xs) : w'.ownsRow base e size v n xs :=
  own_move hr fun k hk => by
    obtain ⟨cs, hc⟩ := own_typed hr k hk
    rw [h.block k _ hc (.inr fun cs' e' => by injection e' with _ e'; exact hne e'), hc]
theorem Turn.cells {B : Nat} {t e : TypeId} {w w' : World} {k : Nat} {cs : Array Value} {fz : Nat × Nat} (h : Turn B t w w') (hne : e ≠ t) (hr : w.heap[k]? = some (.cells cs e fz)) : w'.heap[k]? = some (.cells cs e fz) :=
  h.block k _ hr (.inr fun cs' e' => by injection e' with _ e'; exact hne e')
theorem Turn.map {B : Nat} {t : TypeId} {w w' : World} {mb n : Nat} {D : DataW Unit} {k : TypeId} {R : Value → Option (DataW Unit × List MemPlace)} (h : Turn B t w w') (hm : w.ownsMap Try.prog k R mb n D) : w'.ownsMap Try.prog k R mb n D := by
  obtain ⟨es, clock, hh, r⟩ := hm
  exact ⟨es, clock, h.block mb _ hh (.inr fun cs e => by cases e), r⟩
section
variable {w : World} {l : List S49} {A : Option Addr} {c bl bm mb gn : Nat} {wr w' : World} {vw vo : Value} {nx : List Nat} {wt : List (Nat × PJ)} {out : List S34}
theorem SI.size (h : SI w l A c bl bm mb gn wr vw vo nx wt out) : w.heap.size ≤ wr.heap.size := h.below.size
/-- Calls and new blocks. -/
theorem SI.kept (h : SI w l A c bl bm mb gn wr vw vo nx wt out) (hb : Below wr.heap.size wr w') : SI w l A c bl bm mb gn w' vw vo nx wt out := by
  have T : Turn w.heap.size 0 wr w' := Turn.of_below hb
  exact ⟨T.below h.below h.size, T.cells (by decide) h.boxl, T.cells (by decide) h.boxm, T.map h.map, T.row (by decide) h.next, T.row (by decide) h.wait, T.row (by decide) h.outr, fun x hx => ⟨(h.jobs x hx).1, T.cells (by decide) (h.jobs x hx).2⟩, h.nodup⟩
theorem SI.alloc (h : SI w l A c bl bm mb gn wr vw vo nx wt out) (o : Obj) : SI w l A c bl bm mb gn (wr.alloc o) vw vo nx wt out := h.kept ((Below.refl _ _).alloc (Nat.le_refl _) o)
theorem SI.drew (h : SI w l A c bl bm mb gn wr vw vo nx wt out) : SI w l A c bl bm mb gn wr.drew vw vo nx wt out := h.kept (Below.refl _ _).drew
/-- The next releases are written. -/
theorem SI.setNext (h : SI w l A c bl bm mb gn wr vw vo nx wt out) (i : Nat) (q : Nat) : SI w l A c bl bm mb gn (wr.setCell ⟨gn, i, none⟩ (.int .i64 (q : Int))) vw vo (nx.set i q) wt out := by
  obtain ⟨s1, s2⟩ := h.next.stored i (.int .i64 (q : Int))
  have T : Turn w.heap.size 3 wr _ := Turn.of_grown s2 fun k hk => by
    obtain rfl := Option.some.inj hk
    exact ⟨(h.next.lt gn rfl).1, own_typed h.next gn rfl⟩
  refine ⟨T.below h.below h.size, T.cells (by decide) h.boxl, T.cells (by decide) h.boxm, T.map h.map, ?_, T.row (by decide) h.wait, T.row (by decide) h.outr, fun x hx => ⟨(h.jobs x hx).1, T.cells (by decide) (h.jobs x hx).2⟩, h.nodup⟩
  have e : nums64 (nx.set i q) = (nums64 nx).set i (.int .i64 (q : Int)) := by unfold nums64; rw [List.map_set]
  rw [e]
  exact s1
/-- The waiting jobs' row is written: a further job. -/
theorem SI.more (h : SI w l A c bl bm mb gn wr vw vo nx wt out) {vw' : Value} {b : Nat} {p : PJ} (hg : wr.grownBy w' vw.ownBlock) (hrow : w'.ownsRow w.heap.size 80 1 vw' (wt.length + 1) (ptrs (wt.map (·.1)) ++ [.pointer (some ⟨b, 0, none⟩)]))
    (hB : w.heap.size ≤ b) (hb : wr.heap[b]? = some (.cells p.cells 82 (0, 0))) (hn : ∀ x ∈ wt, x.1 ≠ b) : SI w l A c bl bm mb gn w' vw' vo nx (wt ++ [(b, p)]) out := by
  have T : Turn w.heap.size 80 wr w' := Turn.of_grown hg fun k hk => ⟨(h.wait.lt k hk).1, own_typed h.wait k hk⟩
  refine ⟨T.below h.below h.size, T.cells (by decide) h.boxl, T.cells (by decide) h.boxm, T.map h.map, T.row (by decide) h.next, ?_, T.row (by decide) h.outr, fun x hx => ?_, ?_⟩
  · have e : ptrs ((wt ++ [(b, p)]).map (·.1)) = ptrs (wt.map (·.1)) ++ [.pointer (some ⟨b, 0, none⟩)] := by unfold ptrs; rw [List.map_append, List.map_append]; rfl
    rw [e, List.length_append]
    exact hrow
  · rcases List.mem_append.1 hx with hx | hx
    · exact ⟨(h.jobs x hx).1, T.cells (by decide) (h.jobs x hx).2⟩
    · rw [List.mem_singleton.1 hx]
      exact ⟨hB, T.cells (by decide) hb⟩
  · rw [List.map_append, List.nodup_append]
    refine ⟨h.nodup, by simp, fun a ha b' hb' => ?_⟩
    obtain ⟨x, hx, rfl⟩ := List.mem_map.1 ha
    have : b' = b := by simpa using hb'
    rw [this]
    exact hn x hx
/-- The waiting jobs' row is written: fewer jobs. -/
theorem SI.less (h : SI w l A c bl bm mb gn wr vw vo nx wt out) {vw' : Value} {wt' : List (Nat × PJ)} (hg : wr.grownBy w' vw.ownBlock) (hrow : w'.ownsRow w.heap.size 80 1 vw' wt'.length (ptrs (wt'.map (·.1))))
    (hs : wt'.Sublist wt) : SI w l A c bl bm mb gn w' vw' vo nx wt' out := by
  have T : Turn w.heap.size 80 wr w' := Turn.of_grown hg fun k hk => ⟨(h.wait.lt k hk).1, own_typed h.wait k hk⟩
  exact ⟨T.below h.below h.size, T.cells (by decide) h.boxl, T.cells (by decide) h.boxm, T.map h.map, T.row (by decide) h.next, hrow, T.row (by decide) h.outr,
    fun x hx => ⟨(h.jobs x (hs.subset hx)).1, T.cells (by decide) (h.jobs x (hs.subset hx)).2⟩, h.nodup.sublist (hs.map _)⟩
/-- The ended jobs' row is written. -/
theorem SI.ended (h : SI w l A c bl bm mb gn wr vw vo nx wt out) {vo' : Value} {j : S34} (hg : wr.grownBy w' vo.ownBlock) (hrow : w'.ownsRow w.heap.size 34 5 vo' (out.length + 1) (out.flatMap cells34 ++ cells34 j)) :
    SI w l A c bl bm mb gn w' vw vo' nx wt (out ++ [j]) := by
  have T : Turn w.heap.size 34 wr w' := Turn.of_grown hg fun k hk => ⟨(h.outr.lt k hk).1, own_typed h.outr k hk⟩
  refine ⟨T.below h.below h.size, T.cells (by decide) h.boxl, T.cells (by decide) h.boxm, T.map h.map, T.row (by decide) h.next, T.row (by decide) h.wait, ?_, fun x hx => ⟨(h.jobs x hx).1, T.cells (by decide) (h.jobs x hx).2⟩, h.nodup⟩
  rw [List.flatMap_append, List.length_append]
  simpa using hrow
/-- A job's cell is written. -/
theorem SI.setJob {pre post : List (Nat × PJ)} {b : Nat} {p q : PJ} (h : SI w l A c bl bm mb gn wr vw vo nx (pre ++ (b, p) :: post) out) (j : Nat) (u : Value) (hq : q.cells = p.cells.setIfInBounds j u) :
    SI w l A c bl bm mb gn (wr.setCell ⟨b, j, none⟩ u) vw vo nx (pre ++ (b, q) :: post) out := by
  have hb := h.jobs (b, p) (by simp)
  have hg : wr.grownBy (wr.setCell ⟨b, j, none⟩ u) (some b) := ⟨rfl, rfl, rfl, by simp, fun k _ hk => heap_setCell_other wr ⟨b, j, none⟩ k u (fun e => hk (by simp [e]))⟩
  have T : Turn w.heap.size 82 wr _ := Turn.of_grown hg fun k hk => by
    obtain rfl := Option.some.inj hk
    exact ⟨hb.1, _, hb.2⟩
  have hnd := h.nodup
  rw [List.map_append, List.map_cons, List.nodup_append] at hnd
  obtain ⟨_, n2, n3⟩ := hnd
  rw [List.nodup_cons] at n2
  refine ⟨T.below h.below h.size, T.cells (by decide) h.boxl, T.cells (by decide) h.boxm, T.map h.map, T.row (by decide) h.next, ?_, T.row (by decide) h.outr, fun x hx => ?_, ?_⟩
  · have := T.row (by decide) h.wait
    simpa using this
  · have far : ∀ x ∈ pre ++ (b, p) :: post, x.1 ≠ b → w.heap.size ≤ x.1 ∧ (wr.setCell ⟨b, j, none⟩ u).heap[x.1]? = some (.cells x.2.cells 82 (0, 0)) := fun x hx hne =>
      ⟨(h.jobs x hx).1, (heap_setCell_other wr ⟨b, j, none⟩ x.1 u hne).trans (h.jobs x hx).2⟩
    rcases List.mem_append.1 hx with hx | hx
    · exact far x (List.mem_append_left _ hx) (n3 x.1 (List.mem_map_of_mem hx) b List.mem_cons_self)
    · rcases List.mem_cons.1 hx with rfl | hx
      · refine ⟨hb.1, ?_⟩
        rw [hq]
        exact heap_setCell_same wr b j _ _ u hb.2
      · exact far x (List.mem_append_right _ (List.mem_cons_of_mem _ hx)) (fun e => n2.1 (List.mem_map.2 ⟨x, hx, e⟩))
  · have := h.nodup
    simpa using this
theorem SI.ptr (h : SI w l A c bl bm mb gn wr vw vo nx wt out) {g cap k n : Nat} (hv : vw = .slice (some ⟨g, 0, none⟩) n cap) {x : Nat × PJ} (hx : wt[k]? = some x) : wr.cell? ⟨g, k, none⟩ = some (.pointer (some ⟨x.1, 0, none⟩)) := by
  have := h.wait.cells (g := g) (by rw [hv]; rfl) k (.pointer (some ⟨x.1, 0, none⟩)) (by unfold ptrs; rw [List.getElem?_map, List.getElem?_map, hx]; rfl)
  rwa [add_plain] at this
theorem SI.nextAt (h : SI w l A c bl bm mb gn wr vw vo nx wt out) {i q : Nat} (hq : nx[i]? = some q) : wr.cell? ⟨gn, i, none⟩ = some (.int .i64 (q : Int)) := by
  have := h.next.cells (g := gn) rfl i (.int .i64 (q : Int)) (by unfold nums64; rw [List.getElem?_map, hq]; rfl)
  rwa [add_plain] at this
end
theorem made_nums (n : Nat) : (madeCells (Value.int .i64 0).cells (n * 1)).toList = nums64 (List.replicate n 0) := by
  unfold nums64
  refine List.ext_getElem? fun q => ?_
  by_cases hq : q < n
  · rw [List.map_replicate, List.getElem?_replicate, if_pos hq]
    unfold madeCells
    simp [hq, Value.cells, Nat.mod_one]
  · rw [List.getElem?_eq_none (by simp [madeCells]; omega), List.getElem?_eq_none (by simp; omega)]
/-- What is left to do tells the answer. -/
structure SJ (l : List S49) (rel : List (List Int)) (now : Int) (nx : List Nat) (wt : List PJ) (out : List S34) : Prop where
  len : nx.length = l.length
  le : ∀ c ∈ nx, c ≤ 2000
  few : wt.length + out.length ≤ nx.sum
  jobs : ∀ p ∈ wt, 0 ≤ p.task ∧ p.task < l.length ∧ 0 ≤ p.done ∧ p.done < (rd_T49 l p.task).f0 ∧ 0 ≤ p.blk ∧ p.blk ≤ now
theorem simOk_of {l : List S49} {rel : List (List Int)} {a : Int} (h : simOk l rel a = true) : vld l = true ∧ rel.length = l.length ∧ 0 ≤ a ∧ a ≤ 100000 ∧ ∀ r ∈ rel, r.length ≤ 2000 := by
  unfold simOk at h
  rw [Bool.and_eq_true, Bool.and_eq_true] at h
  obtain ⟨⟨h1, h2⟩, h3⟩ := h
  obtain ⟨h2, h4, h5⟩ := of_decide_eq_true h2
  exact ⟨h1, h2, h4, h5, fun r hr => of_decide_eq_true (List.all_eq_true.1 h3 r hr)⟩
theorem two_new (w : World) (o1 o2 : Obj) : ((w.alloc o1).alloc o2).heap[w.heap.size + 1]? = some o2 := by
  have := heap_alloc_new (w.alloc o1) o2
  rwa [World.size_alloc] at this
theorem two_old (w : World) (o1 o2 : Obj) : ((w.alloc o1).alloc o2).heap[w.heap.size]? = some o1 :=
  (Below.heap_alloc (w.alloc o1) o2 _ (by simp)).trans (heap_alloc_new w o1)
theorem SJ.more {l : List S49} {rel : List (List Int)} {now : Int} {nx : List Nat} {wt : List PJ} {out : List S34} (h : SJ l rel now nx wt out) {i c : Nat} {t : Int} (hc : nx.getD i 0 = c) (hi : i < nx.length) (hc2 : c + 1 ≤ 2000)
    (hn : 0 ≤ now) (hv : vld l = true) : SJ l rel now (nx.set i (c + 1)) (wt ++ [fresh i t]) out := by
  refine ⟨by rw [List.length_set]; exact h.len, fun x hx => ?_, ?_, fun p hp => ?_⟩
  · rcases List.mem_or_eq_of_mem_set hx with h1 | h1
    · exact h.le x h1
    · omega
  · rw [sum_set1 nx i c hc hi, List.length_append]
    have := h.few
    simp; omega
  · rcases List.mem_append.1 hp with h1 | h1
    · exact h.jobs p h1
    · rw [List.mem_singleton.1 h1]
      have hl := h.len
      have hil : i < l.length := by omega
      have hm : rd_T49 l (i : Int) ∈ l := by rw [rd49_at l i hil]; exact List.getElem_mem _
      obtain ⟨v1, _⟩ := vldT_of ((vld_of hv).2 _ hm)
      refine ⟨?_, ?_, ?_, ?_, ?_, ?_⟩ <;> simp only [fresh] <;> omega
theorem rd_nat (ti : List Int) (c : Nat) (h : c < ti.length) : rd ti (c : Int) = ti[c] := by
  unfold rd
  rw [Int.toNat_natCast, List.getD_eq_getElem?_getD, List.getElem?_eq_getElem h]
  rfl
theorem sim_next {l : List S49} {rel : List (List Int)} {now a : Int} {s : Sim} {X : List S34} (h : (simGo l rel (a - now).toNat now s).out = X) (hn : now < a) :
    (simGo l rel (a - (now + 1)).toNat (now + 1) (workV l now s.out (relAll now 0 rel s.nx s.wt))).out = X := by
  rw [show (a - now).toNat = (a - (now + 1)).toNat + 1 by omega] at h
  exact h
theorem SJ.later {l : List S49} {rel : List (List Int)} {now : Int} {nx : List Nat} {wt : List PJ} {out : List S34} (h : SJ l rel now nx wt out) : SJ l rel (now + 1) nx wt out :=
  ⟨h.len, h.le, h.few, fun p hp => by obtain ⟨a, b, c, d, e, f⟩ := h.jobs p hp; exact ⟨a, b, c, d, e, by omega⟩⟩
theorem own_form {w : World} {base size n : Nat} {e : TypeId} {v : Value} {xs : List Value} (h : w.ownsRow base e size v n xs) (hn : 0 < n) : ∃ g cap, v = .slice (some ⟨g, 0, none⟩) n cap := by
  rcases h.2 with ⟨_, h0⟩ | ⟨g, cap, _, hv, _⟩
  · omega
  · exact ⟨g, cap, hv⟩
theorem relAll_nil (now : Int) (i : Nat) (nx : List Nat) (W : List PJ) : relAll now i [] nx W = (nx, W) := rfl
def beg (now : Int) (p : PJ) : PJ := { p with began := true, start := if p.began = true then p.start else now }
theorem beg_old {now : Int} {p : PJ} (h : p.began = true) : beg now p = p := by
  unfold beg
  rw [if_pos h, ← h]
theorem beg_new {now : Int} {p : PJ} (h : p.began = false) : beg now p = { p with began := true, start := now } := by
  unfold beg
  rw [h]
  rfl
theorem hinder_ok {l : List S49} {now t : Int} {p : PJ} (h : 0 ≤ p.task ∧ p.task < l.length ∧ 0 ≤ p.done ∧ p.done < (rd_T49 l p.task).f0 ∧ 0 ≤ p.blk ∧ p.blk ≤ now) :
    0 ≤ (hinder t p).task ∧ (hinder t p).task < l.length ∧ 0 ≤ (hinder t p).done ∧ (hinder t p).done < (rd_T49 l (hinder t p).task).f0 ∧ 0 ≤ (hinder t p).blk ∧ (hinder t p).blk ≤ now + 1 := by
  obtain ⟨a, b, c, d, e, f⟩ := h
  unfold hinder
  split
  · exact ⟨a, b, c, d, by show 0 ≤ p.blk + 1; omega, by show p.blk + 1 ≤ now + 1; omega⟩
  · exact ⟨a, b, c, d, e, by omega⟩
theorem SJ.run {l : List S49} {rel : List (List Int)} {now : Int} {nx : List Nat} {pre post : List PJ} {p : PJ} {out : List S34} (h : SJ l rel now nx (pre ++ p :: post) out) (hne : p.done + 1 ≠ (rd_T49 l p.task).f0) :
    SJ l rel (now + 1) nx (pre.map (hinder p.task) ++ runJob now p :: post.map (hinder p.task)) out := by
  refine ⟨h.len, h.le, ?_, fun q hq => ?_⟩
  · have := h.few
    simpa using this
  · rcases List.mem_append.1 hq with h1 | h1
    · obtain ⟨y, hy, rfl⟩ := List.mem_map.1 h1
      exact hinder_ok (h.jobs y (List.mem_append_left _ hy))
    · rcases List.mem_cons.1 h1 with h1 | h1
      · subst h1
        obtain ⟨a, b, c, d, e, f⟩ := h.jobs p (by simp)
        exact ⟨a, b, by show 0 ≤ p.done + 1; omega, by show p.done + 1 < (rd_T49 l p.task).f0; omega, e, by show p.blk ≤ now + 1; omega⟩
      · obtain ⟨y, hy, rfl⟩ := List.mem_map.1 h1
        exact hinder_ok (h.jobs y (List.mem_append_right _ (List.mem_cons_of_mem _ hy)))
theorem SJ.fin {l : List S49} {rel : List (List Int)} {now : Int} {nx : List Nat} {pre post : List PJ} {p : PJ} {out : List S34} {j : S34} (h : SJ l rel now nx (pre ++ p :: post) out) :
    SJ l rel (now + 1) nx (pre.map (hinder p.task) ++ post.map (hinder p.task)) (out ++ [j]) := by
  refine ⟨h.len, h.le, ?_, fun q hq => ?_⟩
  · have := h.few
    simp only [List.length_append, List.length_cons, List.length_map, List.length_nil] at this ⊢
    omega
  · rcases List.mem_append.1 hq with h1 | h1
    · obtain ⟨y, hy, rfl⟩ := List.mem_map.1 h1
      exact hinder_ok (h.jobs y (List.mem_append_left _ hy))
    · obtain ⟨y, hy, rfl⟩ := List.mem_map.1 h1
      exact hinder_ok (h.jobs y (List.mem_append_right _ (List.mem_cons_of_mem _ hy)))
def hinP (t : Int) (x : Nat × PJ) : Nat × PJ := (x.1, hinder t x.2)
theorem hinder_task (t : Int) (p : PJ) : (hinder t p).task = p.task := by unfold hinder; split <;> rfl
theorem hin_mix (t : Int) (wt : List (Nat × PJ)) (k : Nat) {x : Nat × PJ} (hx : x ∈ wt) : ∃ p, (x.1, p) ∈ (wt.take k).map (hinP t) ++ wt.drop k ∧ p.task = x.2.task := by
  rw [← List.take_append_drop k wt] at hx
  rcases List.mem_append.1 hx with h | h
  · exact ⟨hinder t x.2, List.mem_append_left _ (List.mem_map.2 ⟨x, h, rfl⟩), hinder_task _ _⟩
  · exact ⟨x.2, List.mem_append_right _ h, rfl⟩
theorem hin_map (t : Int) (wt : List (Nat × PJ)) : (wt.map (hinP t)).map (·.2) = (wt.map (·.2)).map (hinder t) := by rw [List.map_map, List.map_map]; rfl
theorem hinder_self (now : Int) (p : PJ) : hinder p.task (runJob now p) = runJob now p := by
  unfold hinder
  rw [if_neg (by show ¬ p.task < p.task; omega)]
theorem SI.pend {w : World} {l : List S49} {A : Option Addr} {c bl bm mb gn : Nat} {wr : World} {vo : Value} {nx : List Nat} {pre post : List (Nat × PJ)} {b g n cap : Nat} {p : PJ} {out : List S34}
    (h : SI w l A c bl bm mb gn wr (.slice (some ⟨g, 0, none⟩) n cap) vo nx (pre ++ (b, p) :: post) out) : (∀ x ∈ pre.map (·.1) ++ post.map (·.1), x ≠ b ∧ x ≠ g ∧ IsPend wr x) ∧ IsPend wr b ∧ b ≠ g := by
  obtain ⟨cs, hg⟩ := own_typed h.wait g rfl
  have far : ∀ {k : Nat} {cs' : Array Value}, wr.heap[k]? = some (.cells cs' 82 (0, 0)) → k ≠ g := fun hk e => by
    rw [e, hg] at hk
    injection hk with hk
    injection hk with _ hk
    exact absurd hk (by decide)
  have hnd := h.nodup
  rw [List.map_append, List.map_cons, List.nodup_append] at hnd
  obtain ⟨_, n2, n3⟩ := hnd
  rw [List.nodup_cons] at n2
  have hb := (h.jobs (b, p) (by simp)).2
  refine ⟨fun x hx => ?_, ⟨_, hb⟩, far hb⟩
  rcases List.mem_append.1 hx with h1 | h1
  · obtain ⟨y, hy, rfl⟩ := List.mem_map.1 h1
    have hj := (h.jobs y (List.mem_append_left _ hy)).2
    exact ⟨n3 y.1 h1 b List.mem_cons_self, far hj, _, hj⟩
  · obtain ⟨y, hy, rfl⟩ := List.mem_map.1 h1
    have hj := (h.jobs y (List.mem_append_right _ (List.mem_cons_of_mem _ hy))).2
    exact ⟨fun e => n2.1 (by rw [← e]; exact h1), far hj, _, hj⟩
theorem set_new (w : World) (a : Addr) (v : Value) (o : Obj) : ((w.setCell a v).alloc o).drew.heap[w.heap.size]? = some o := by
  have := heap_alloc_new (w.setCell a v) o
  rwa [World.size_setCell] at this
theorem SI.keepOut {w : World} {l : List S49} {A : Option Addr} {c bl bm mb gn : Nat} {wr w' : World} {vw vo : Value} {nx : List Nat} {wt : List (Nat × PJ)} {out : List S34}
    (h : SI w l A c bl bm mb gn wr vw vo nx wt out) (hg : wr.grownBy w' vo.ownBlock) {k e : Nat} {cs : Array Value} (hne : e ≠ 34) (hk : wr.heap[k]? = some (.cells cs e (0, 0))) : w'.heap[k]? = some (.cells cs e (0, 0)) :=
  (Turn.of_grown (B := w.heap.size) (t := 34) hg (fun k hk => ⟨(h.outr.lt k hk).1, own_typed h.outr k hk⟩)).cells hne hk
theorem info80 : (Try.prog.info? 80).map (fun i => (i.zero, i.size, i.bytes)) = some (some (.pointer none), 1, 8) := by kernel_rfl
theorem SJ.bound {l : List S49} {rel : List (List Int)} {now : Int} {nx : List Nat} {wt : List PJ} {out : List S34} (h : SJ l rel now nx wt out) (hl : l.length ≤ 20) : wt.length + out.length ≤ 40000 := by
  have h1 := sum_le 2000 nx h.le
  have h2 := h.few
  rw [h.len] at h1
  have h3 : 2000 * l.length ≤ 40000 := by omega
  omega
theorem SJ.wt {l : List S49} {rel : List (List Int)} {now : Int} {nx : List Nat} {wt : List (Nat × PJ)} {out : List S34} (h : SJ l rel now nx (wt.map (·.2)) out) (hl : l.length ≤ 20) : wt.length ≤ 40000 ∧ out.length ≤ 40000 := by
  have := h.bound hl
  rw [List.length_map] at this
  omega
def cellNat : Option Value → Nat
  | some (.int _ q) => q.toNat
  | _ => 0
set_option maxHeartbeats 8000000 in
set_option maxRecDepth 100000 in
theorem sim_run (k : Nat) (A0 : Option Addr) (c0 : Nat) (l0 : List (S49)) (A1 : Option Addr) (c1 : Nat) (l1 : List (List Int)) (a2 : Int) (w : World) (hr0 : Kd.C k49 w A0 l0.length l0) (hc0 : l0.length ≤ c0)
    (hr1 : Kd.C (Kd.slice 3 (Kd.int .i64)) w A1 l1.length l1) (hc1 : l1.length ≤ c1) (hok : simOk l0 l1 a2 = true) (h : ceiling_admit.f k l0 l1 a2 = some 0) :
    Calls Try.prog 21 #[.slice A0 l0.length c0, .slice A1 l1.length c1, .int .i64 a2] w fun e w' => ∃ v0_ : Value, e = .returned (.tuple #[v0_, .int .i64 0]) ∧ w'.ownsRow w.heap.size 34 5 v0_ (simV l0 l1 a2).length ((simV l0 l1 a2).flatMap cells34) ∧ Below w.heap.size w w' := by
  have hu49 := Try.underlying49
  have hu22 := Try.underlying22
  have hu34 := Try.underlying34
  have hu79 := Try.underlying79
  have hu80 := Try.underlying80
  have hu82 := Try.underlying82
  have HR := Aside0.mk hr0
  have HS := Aside0.mk hr1
  have HA := Aside0.mk h
  have HOK := Aside0.mk hok
  have HC0 := Aside0.mk hc0
  have HC1 := Aside0.mk hc1
  obtain ⟨hv, hlen, a0, a1, hlens⟩ := simOk_of hok
  have hn20 : l0.length ≤ 20 := (vld_of hv).1
  have HV := Aside0.mk hv
  have HLEN := Aside0.mk hlen
  have HLENS := Aside0.mk hlens
  clear hr0 hr1 h hok hv hc0 hc1 hlen hlens
  obtain ⟨n, hn⟩ : ∃ n, n = l0.length := ⟨_, rfl⟩
  go_enter Try.func21, Try.ntmps21
  go_wp2_with fail
  refine (ceiling_admit.calls k A0 c0 l0 A1 c1 l1 a2 0 _ (Kd.C_below HR.out ((Below.refl _ _).alloc (Nat.le_refl _) _)) HC0.out (Kd.C_below HS.out ((Below.refl _ _).alloc (Nat.le_refl _) _)) HC1.out HA.out).mono ?_
  rintro e w1 ⟨rfl, hb1⟩
  have hbl : w1.heap[w.heap.size]? = some (.cells #[.slice A0 l0.length c0] 22 (0, 0)) := (hb1.block _ (by simp)).trans (heap_alloc_new w _)
  have HBL := Aside0.mk hbl
  have hB1 : Below w.heap.size w w1 := below_step ((Below.refl _ w).alloc (Nat.le_refl _) _) hb1
  have HB1 := Aside0.mk hB1
  have x0 : w1.cell? ⟨w.heap.size, 0, none⟩ = some (.slice A0 l0.length c0) := pj_cell hbl 0 _ rfl
  clear hb1 hbl hB1
  go_wp2_with fail
  refine (ceil_yes A0 c0 l0 w1 (Kd.C_below HR.out HB1.out) HC0.out HV.out).mono ?_
  rintro e w2 ⟨rfl, hown, hb2⟩
  have HO := Aside0.mk hown
  have HB2 := Aside0.mk hb2
  have x1 : w2.cell? ⟨w.heap.size, 0, none⟩ = some (.slice A0 l0.length c0) := pw_cell_below hb2 x0
  have x2 : (w2.alloc (.cells #[.map (some w1.heap.size)] 65)).cell? ⟨w.heap.size, 0, none⟩ = some (.slice A0 l0.length c0) := cell_new_ _ x1
  clear hown hb2 x0
  obtain ⟨i3, hi3, hz3, hsz3, hby3⟩ := info_parts info3
  go_wp2_with (at_make; (refine wpList_make_full _ rfl _ _ 38 rfl w.heap.size 3 i3 (.int .i64 0) 1 Try.underlying38 hi3 hz3 hsz3 _ _ _ _ l0.length rfl rfl rfl rfl (by rw [hby3]; omega) (by unfold maxLen; omega) (by rw [World.size_alloc]; exact Nat.le_trans HB1.out.size (Nat.le_trans HB2.out.size (Nat.le_succ _))) ?_; intro w3 hnext hg3))
  rw [show (w2.alloc (.cells #[.map (some w1.heap.size)] 65)).heap.size = w2.heap.size + 1 from World.size_alloc _ _] at hnext
  generalize hgn : w2.heap.size + 1 = gn at hnext ⊢
  have hSI : SI w l0 A0 c0 w.heap.size w2.heap.size w1.heap.size gn w3 (.slice none 0 0) (.slice none 0 0) (List.replicate l0.length 0) [] [] := by
    rw [made_nums] at hnext
    have hb3 : Below (w2.alloc (.cells #[.map (some w1.heap.size)] 65)).heap.size (w2.alloc (.cells #[.map (some w1.heap.size)] 65)) w3 := ⟨hg3.os, hg3.tape, hg3.output, hg3.size, fun k hk => hg3.block k hk (by simp)⟩
    have hb23 : Below w2.heap.size w2 w3 := below_step ((Below.refl _ w2).alloc (Nat.le_refl _) _) hb3
    have hb13 : Below w1.heap.size w1 w3 := below_step HB2.out hb23
    exact ⟨below_step HB1.out hb13, (hb13.block _ (blk_lt HBL.out)).trans HBL.out, (hb3.block _ (by simp)).trans (heap_alloc_new w2 _), map_below HO.out hb23, hnext, World.ownsRow_nil _ _ _ _, World.ownsRow_nil _ _ _ _, (fun x hx => by cases hx), List.nodup_nil⟩
  have HSI := Aside0.mk hSI
  clear hSI hnext hg3 HO HB2 x1 x2 HBL hgn
  generalize w2.heap.size = bm at HSI ⊢
  generalize w1.heap.size = mb at HSI ⊢
  clear HB1 hi3 hz3 hsz3 hby3
  obtain ⟨wo, rfl⟩ : ∃ wo : World, wo = w3 := ⟨_, rfl⟩
  go_wp2_with fail
  go_loopw [11, 12, 32] (fun v11 v12 v32 wr => ∃ (now : Int) (nx : List Nat) (wt : List (Nat × PJ)) (out : List S34), v32 = .int .i64 now ∧ 0 ≤ now ∧ now ≤ a2 ∧ Aside0 (SI w l0 A0 c0 w.heap.size bm mb gn wr v11 v12 nx wt out) ∧
      Aside0 (SJ l0 l1 now nx (wt.map (·.2)) out) ∧ Aside0 ((simGo l0 l1 (a2 - now).toNat now ⟨nx, wt.map (·.2), out⟩).out = simV l0 l1 a2)) (fun _ _ v _ => (a2 - intOf v).toNat)
  case atStart => exact ⟨0, _, [], [], rfl, by omega, by omega, HSI, ⟨⟨by simp, fun c hc => by rw [List.eq_of_mem_replicate hc]; omega, by simp, fun p hp => by cases hp⟩⟩, ⟨by rw [Int.sub_zero]; rfl⟩⟩
  case round =>
    clear HSI
    obtain ⟨vo, rfl⟩ : ∃ v, v = u12 := ⟨_, rfl⟩
    obtain ⟨now, nx0, wt0, out, rfl, n0, n1, HI, HJ, HT⟩ := hrel
    by_cases hnow : now < a2
    · go_wp2_with fail
      obtain ⟨D, hD⟩ : ∃ D, D = relAll now 0 l1 nx0 (wt0.map (·.2)) := ⟨_, rfl⟩
      have HD := Aside0.mk hD
      clear hD
      go_loopw [11, 37] (fun v11 v37 wr => ∃ (i : Int) (nx : List Nat) (wt : List (Nat × PJ)), v37 = .int .i64 i ∧ 0 ≤ i ∧ i ≤ l1.length ∧ Aside0 (SI w l0 A0 c0 w.heap.size bm mb gn wr v11 vo nx wt out) ∧
          Aside0 (SJ l0 l1 now nx (wt.map (·.2)) out) ∧ Aside0 (relAll now i.toNat (l1.drop i.toNat) nx (wt.map (·.2)) = D)) (fun _ v _ => l1.length - (intOf v).toNat)
      case atStart => exact ⟨0, nx0, wt0, rfl, by omega, by omega, HI, HJ, ⟨HD.out.symm⟩⟩
      case round =>
        obtain ⟨i, nx, wt, rfl, i0, i1, HI1, HJ1, HT1⟩ := hrel
        by_cases hi : i < l1.length
        · --[R
          have hi' : i < (l0.length : Int) := by have := HLEN.out; omega
          obtain ⟨ad, A3, c3, hA, y0, y1, y2⟩ := at_L5 HS.out i i0 hi
          subst hA
          have HTI := Aside0.mk y2
          have x0 := (HI1.out.below.cell (World.block_lt_of_cell? w _ y0)).trans y0
          have HTC := Aside0.mk y1
          clear y0 y1 y2
          generalize hti : rd_L5 l1 i = ti at x0 HTC HTI
          have hte : l1.drop i.toNat = ti :: l1.drop (i.toNat + 1) := by
            rw [List.drop_eq_getElem_cons (by omega), ← hti]
            unfold rd_L5
            rw [List.getD_eq_getElem?_getD, List.getElem?_eq_getElem (by omega)]
            rfl
          have hti2 : ti.length ≤ 2000 := HLENS.out ti (List.mem_of_mem_drop (by rw [hte]; exact List.mem_cons_self))
          have HTE := Aside0.mk hte
          clear hti hte
          go_wp2_with fail
          go_loopw [11] (fun v11 wr => ∃ (nx : List Nat) (wt : List (Nat × PJ)), Aside0 (SI w l0 A0 c0 w.heap.size bm mb gn wr v11 vo nx wt out) ∧
              Aside0 (SJ l0 l1 now nx (wt.map (·.2)) out) ∧ Aside0 (relAll now i.toNat (l1.drop i.toNat) nx (wt.map (·.2)) = D)) (fun _ wr => ti.length - cellNat (wr.cell? ⟨gn, i.toNat, none⟩))
          case atStart => exact ⟨nx, wt, HI1, HJ1, HT1⟩
          case round =>
            clear HI1 HJ1 HT1 x0
            obtain ⟨nx, wt, HI1, HJ1, HT1⟩ := hrel
            obtain ⟨vw, rfl⟩ : ∃ v, v = u11 := ⟨_, rfl⟩
            have hin : i.toNat < nx.length := by rw [HJ1.out.len]; have := HLEN.out; omega
            obtain ⟨c, hc⟩ : ∃ c, nx[i.toNat]? = some c := ⟨_, List.getElem?_eq_getElem hin⟩
            have x1 := HI1.out.nextAt hc
            have hcd : nx.getD i.toNat 0 = c := by rw [List.getD_eq_getElem?_getD, hc]; rfl
            have HCD := Aside0.mk hcd
            have HIN := Aside0.mk hin
            have hc2 : c ≤ 2000 := HJ1.out.le c (List.mem_of_getElem? hc)
            have HNX := Aside0.mk hc
            clear hc hcd hin
            by_cases hl : (c : Int) < ti.length
            · obtain ⟨ad2, hA, y2⟩ := Kd.at_int HTI.out (c : Int) (by omega) hl
              subst hA
              have x2 := (HI1.out.below.cell (World.block_lt_of_cell? w _ y2)).trans y2
              rw [Int.toNat_natCast] at x2
              clear y2
              by_cases hd : rd ti (c : Int) ≤ now
              · obtain ⟨b1, b2⟩ := SJ.wt HJ1.out hn20
                obtain ⟨i80, hi80, hz80, hsz80, hby80⟩ := info_parts info80
                have hszw := HI1.out.size
                go_wp2_with (at_builtin; (refine wpList_append_lies _ rfl _ _ _ rfl w.heap.size 80 i80 (.pointer none) 1 8 Try.underlying79 hi80 hz80 hsz80 hby80 rfl (by omega) vw wt.length (ptrs (wt.map (·.1))) rfl ((HI1.out.wait.alloc _).alloc _) ⟨wr.heap.size + 1, 0, none⟩ 1 1 [.pointer (some ⟨wr.heap.size, 0, none⟩)] rfl rfl (World.news_of_block (cs := #[.pointer (some ⟨wr.heap.size, 0, none⟩)]) (two_new _ _ _)) (by simp [Value.oneCell']) (by omega) (by unfold maxLen; omega) (by omega) (by simp; omega) (wr.heap.size + 2) (by simp) ?_; intro g cap w4 hown4 hgrow4 hat4 hlt4; have hI4 := ((HI1.out.alloc _).alloc _).more (p := fresh i (rd ti c)) hgrow4 hown4 hszw (two_old _ _ _) (fun x hx => Nat.ne_of_lt (blk_lt (HI1.out.jobs x hx).2)); have HI4 := Aside0.mk hI4; have z1 := hI4.nextAt HNX.out; have z2 := hI4.next.frozenAt i.toNat; clear hown4 hgrow4 hat4 hlt4 hI4))
                have hcl : c < ti.length := by omega
                have hce : ((c + 1 : Nat) : Int) = (c : Int) + 1 := by omega
                have hie : ((i.toNat : Nat) : Int) = i := Int.toNat_of_nonneg i0
                have hI5 := HI4.out.setNext i.toNat (c + 1)
                rw [hce] at hI5
                have hJ5 := HJ1.out.more (t := rd ti c) HCD.out HIN.out (by omega) n0 HV.out
                have hT5 := HT1.out
                rw [HTE.out, relAll_step HCD.out HIN.out hcl (by rw [← rd_nat ti c hcl]; exact hd), ← rd_nat ti c hcl, hie] at hT5
                rw [hie] at hJ5
                refine ⟨⟨nx.set i.toNat (c + 1), wt ++ [(wr.heap.size, fresh i (rd ti c))], ⟨hI5⟩, ⟨?_⟩, ⟨?_⟩⟩, ?_⟩
                · rw [List.map_append]; exact hJ5
                · rw [List.map_append, HTE.out]; exact hT5
                · rw [x1, World.cell?_setCell_same _ _ _ z1]
                  simp only [cellNat]
                  omega
              · have hcl : c < ti.length := by omega
                go_wp2_with fail
                refine ⟨⟨i + 1, nx, wt, rfl, by omega, by omega, HI1, HJ1, ⟨?_⟩⟩, by simp [intOf]; omega⟩
                rw [show (i + 1).toNat = i.toNat + 1 by omega, ← HT1.out, HTE.out]
                exact (relAll_skip HCD.out HIN.out (fun h => by rw [← rd_nat ti c h]; omega)).symm
            · go_wp2_with fail
              refine ⟨⟨i + 1, nx, wt, rfl, by omega, by omega, HI1, HJ1, ⟨?_⟩⟩, by simp [intOf]; omega⟩
              rw [show (i + 1).toNat = i.toNat + 1 by omega, ← HT1.out, HTE.out]
              exact (relAll_skip HCD.out HIN.out (fun h => by omega)).symm
          --R]
        · have hil : i.toNat = l1.length := by omega
          have hT2 := HT1.out
          rw [hil, List.drop_length] at hT2
          have hD : (nx, wt.map (·.2)) = relAll now 0 l1 nx0 (wt0.map (·.2)) := hT2.trans HD.out
          have hN := sim_next HT.out hnow
          dsimp only at hN
          rw [← hD] at hN
          have HN := Aside0.mk hN
          clear hT2 hD hN HT HD HT1 HI HJ hil
          obtain ⟨vw, rfl⟩ : ∃ v, v = u11 := ⟨_, rfl⟩
          cases wt with
          | nil =>
            obtain ⟨A5, c5, rfl⟩ : ∃ A5 c5, vw = .slice A5 0 c5 := by
              rcases HI1.out.wait.2 with ⟨h1, _⟩ | ⟨g, cap, _, h1, _⟩
              · exact ⟨_, _, h1⟩
              · exact ⟨_, _, h1⟩
            go_wp2_with fail
            exact ⟨⟨now + 1, nx, [], out, rfl, by omega, by omega, HI1, ⟨HJ1.out.later⟩, ⟨HN.out⟩⟩, by simp [intOf]; omega⟩
          | cons x r =>
            obtain ⟨g, cap, hvw⟩ := own_form HI1.out.wait (by simp)
            rw [List.length_cons] at hvw
            have hmin := minP.calls g cap w.heap.size bm mb A0 c0 l0 x r wr (Kd.C_below HR.out HI1.out.below) HC0.out HV.out HI1.out.map (fun y hy => ⟨(HI1.out.jobs y hy).2, (HJ1.out.jobs y.2 (List.mem_map_of_mem hy)).1, (HJ1.out.jobs y.2 (List.mem_map_of_mem hy)).2.1⟩)
              (fun j y hy => HI1.out.ptr hvw hy) (by have := (SJ.wt HJ1.out hn20).1; rw [List.length_cons] at this; omega) (pj_cell HI1.out.boxl 0 _ rfl) (pj_cell HI1.out.boxm 0 _ rfl)
            have HMIN := Aside0.mk hmin
            subst hvw
            clear hmin
            go_wp2_with fail
            refine HMIN.out.mono ?_
            rintro e w5 ⟨rfl, hb5⟩
            obtain ⟨pre, m, post, hbs⟩ : ∃ pre m post, bsp (fun a b => ltV l0 a.2 b.2) [] x [] r = (pre, m, post) := ⟨_, _, _, rfl⟩
            have hm : bestOf l0 x r = m := by rw [← bsp_best l0 r [] x [], hbs]
            have hsp : x :: r = pre ++ m :: post := by
              have := bsp_split (fun a b => ltV l0 a.2 b.2) r [] x []
              rw [hbs] at this
              exact this.symm
            have hN := HN.out
            have hw : workV l0 now out (nx, (x :: r).map (·.2)) = execV l0 now out nx (pre.map (·.2), m.2, post.map (·.2)) := by
              have := bsp_map (fun y : Nat × PJ => y.2) (fun a b => ltV l0 a.2 b.2) (ltV l0) (fun _ _ => rfl) r [] x []
              rw [hbs] at this
              show execV l0 now out nx (bsp (ltV l0) [] x.2 [] (r.map (·.2))) = _
              rw [show bsp (ltV l0) [] x.2 [] (r.map (·.2)) = _ from this]
            rw [hw] at hN
            have hI5 := HI1.out.kept hb5
            have hJ5 := HJ1.out
            rw [hm]
            have hlen5 : (pre ++ m :: post).length = r.length + 1 := by rw [← hsp]; rfl
            rw [hsp] at hI5 hJ5
            obtain ⟨b, p⟩ := m
            have HN5 := Aside0.mk hN
            have HI5 := Aside0.mk (hI5.alloc (.cells #[.pointer (some ⟨b, 0, none⟩)] 80))
            have HJ5 := Aside0.mk hJ5
            have hgb : g < w5.heap.size := (hI5.wait.lt g rfl).2
            have hne : b ≠ w5.heap.size := Nat.ne_of_lt (blk_lt (hI5.jobs (b, p) (by simp)).2)
            have hne2 : w5.heap.size ≠ b := fun h => hne h.symm
            clear HMIN HI1 HJ1 HN hN hw hI5 hJ5 hsp hm hbs hb5
            have hLb : r.length + 1 ≤ 40000 := by
              have := (SJ.wt HJ5.out hn20).1
              omega
            generalize r.length + 1 = L at *
            have hbx : (w5.alloc (.cells #[.pointer (some ⟨b, 0, none⟩)] 80)).heap[w5.heap.size]? = some (.cells #[.pointer (some ⟨b, 0, none⟩)] 80 (0, 0)) := heap_alloc_new _ _
            have HBX := Aside0.mk hbx
            have hjb := (HI5.out.jobs (b, p) (by simp)).2
            have x0 := pj_cell hbx 0 _ rfl
            have x6 : (w5.alloc (.cells #[.pointer (some ⟨b, 0, none⟩)] 80)).cell? ⟨b, 6, none⟩ = some (.bool p.began) := pj_cell hjb 6 _ rfl
            have HJB := Aside0.mk hjb
            clear hbx hjb
            go_upto_if 91 with fail
            go_cut [] (fun wx => Aside0 (SI w l0 A0 c0 w.heap.size bm mb gn wx (.slice (some ⟨g, 0, none⟩) L cap) vo nx (pre ++ (b, beg now p) :: post) out ∧ wx.heap[w5.heap.size]? = some (.cells #[.pointer (some ⟨b, 0, none⟩)] 80 (0, 0))))
            case first =>
              --[F
              cases hbeg : p.began with
              | true =>
                rw [hbeg] at x6
                go_wp2_with fail
                go_meet
                exact ⟨by rw [beg_old hbeg]; exact HI5.out, HBX.out⟩
              | false =>
                rw [hbeg] at x6
                have x2 := pj_cell HJB.out 2 _ rfl
                have f6 := blk_frozen HJB.out 6
                have f2 := blk_frozen HJB.out 2
                go_wp2_with fail
                go_region_held3 (fun w' => w'.cell? ⟨w5.heap.size, 0, none⟩ = some (.pointer (some ⟨b, 0, none⟩)) ∧ w'.frozen? ⟨b, 6, none⟩ = false ∧ w'.frozen? ⟨b, 2, none⟩ = false) (first | exact ⟨x0, f6, f2⟩ | go_keep) (fail)
                go_wp2_with fail
                go_meet
                exact ⟨((HI5.out.setJob 6 (.bool true) (q := { p with began := true }) rfl).setJob 2 (.int .i64 now) (q := beg now p) (by rw [beg_new hbeg]; rfl)).drew, (heap_setCell_other _ ⟨b, 2, none⟩ _ _ hne2).trans ((heap_setCell_other _ ⟨b, 6, none⟩ _ _ hne2).trans HBX.out)⟩
              --F]
            case rest =>
              clear HI5 x0 x6 HJB HBX
              obtain ⟨HI6, hbx⟩ := hcut.out
              have HI6 := Aside0.mk HI6
              have HBX := Aside0.mk hbx
              have x0 := pj_cell hbx 0 _ rfl
              have hjb := (HI6.out.jobs (b, beg now p) (by simp)).2
              have x5 : wc.cell? ⟨b, 5, none⟩ = some (.int .i64 p.done) := pj_cell hjb 5 _ rfl
              have f5 := blk_frozen hjb 5
              obtain ⟨_, _, d0, d1, _, _⟩ := HJ5.out.jobs p (by simp)
              have d2 : p.done + 1 ≤ 1000 := by
                obtain ⟨t0, t1, _⟩ := HJ5.out.jobs p (by simp)
                obtain ⟨_, v2, _⟩ := vldT_of ((vld_of HV.out).2 _ (rd49_mem t0 t1))
                omega
              have hI7 := HI6.out.setJob 5 (.int .i64 (p.done + 1)) (q := runJob now p) rfl
              have hbx7 := (heap_setCell_other wc ⟨b, 5, none⟩ w5.heap.size (.int .i64 (p.done + 1)) hne2).trans hbx
              have HI7 := Aside0.mk (And.intro hI7 hbx7)
              clear hcut hbx hjb hI7 hbx7
              go_wp2_with fail
              clear HI6 HBX x0 x5 f5
              obtain ⟨wt7, hwt7⟩ : ∃ wt7, wt7 = pre ++ (b, runJob now p) :: post := ⟨_, rfl⟩
              have HW7 := Aside0.mk hwt7
              have hl7 : wt7.length = L := by rw [hwt7, ← hlen5]; simp
              have HB7 := Aside0.mk (show ∀ x ∈ wt7, 0 ≤ x.2.blk ∧ x.2.blk ≤ now from fun x hx => by
                rw [hwt7] at hx
                rcases List.mem_append.1 hx with h1 | h1
                · exact (HJ5.out.jobs x.2 (List.mem_map_of_mem (List.mem_append_left _ h1))).2.2.2.2
                · rcases List.mem_cons.1 h1 with rfl | h1
                  · exact (HJ5.out.jobs p (by simp)).2.2.2.2
                  · exact (HJ5.out.jobs x.2 (List.mem_map_of_mem (List.mem_append_right _ (List.mem_cons_of_mem _ h1)))).2.2.2.2)
              have HM7 := Aside0.mk (show (b, runJob now p) ∈ wt7 by rw [hwt7]; simp)
              rw [← hwt7] at HI7
              clear hwt7
              go_loopw [109] (fun v109 wr => ∃ (k : Int), v109 = .int .i64 k ∧ 0 ≤ k ∧ k ≤ L ∧ Aside0 (SI w l0 A0 c0 w.heap.size bm mb gn wr (.slice (some ⟨g, 0, none⟩) L cap) vo nx ((wt7.take k.toNat).map (hinP p.task) ++ wt7.drop k.toNat) out ∧ wr.heap[w5.heap.size]? = some (.cells #[.pointer (some ⟨b, 0, none⟩)] 80 (0, 0)))) (fun v _ => L - (intOf v).toNat)
              case atStart => exact ⟨0, rfl, by omega, by omega, ⟨HI7.out⟩⟩
              case round =>
                clear HI7
                obtain ⟨k, rfl, k0, k1, HI8⟩ := hrel
                by_cases hk : k < L
                · --[K
                  obtain ⟨hI8, hbx8⟩ := HI8.out
                  have hkl : k.toNat < wt7.length := by omega
                  obtain ⟨⟨yb, yp⟩, hy⟩ : ∃ y, y = wt7[k.toNat] := ⟨_, rfl⟩
                  have hdr : wt7.drop k.toNat = (yb, yp) :: wt7.drop (k.toNat + 1) := by rw [List.drop_eq_getElem_cons hkl, ← hy]
                  have hym : (yb, yp) ∈ wt7 := by rw [hy]; exact List.getElem_mem _
                  have htk : (wt7.take (k + 1).toNat).map (hinP p.task) ++ wt7.drop (k + 1).toNat = (wt7.take k.toNat).map (hinP p.task) ++ (yb, hinder p.task yp) :: wt7.drop (k.toNat + 1) := by
                    rw [show (k + 1).toNat = k.toNat + 1 by omega, List.take_succ_eq_append_getElem hkl, ← hy, List.map_append, List.append_assoc]
                    rfl
                  obtain ⟨pb, hpb, hpt⟩ := hin_mix p.task wt7 k.toNat HM7.out
                  have x4 : wr.cell? ⟨b, 0, none⟩ = some (.int .i64 p.task) := by
                    have h := pj_cell (hI8.jobs _ hpb).2 0 _ rfl
                    have e : pb.task = p.task := hpt
                    rw [← e]
                    exact h
                  rw [hdr] at hI8
                  have x1 : wr.cell? ⟨g, k.toNat, none⟩ = some (.pointer (some ⟨yb, 0, none⟩)) := hI8.ptr rfl (x := (yb, yp)) (by rw [List.getElem?_append_right (by simp; omega)]; simp [Nat.min_eq_left (Nat.le_of_lt hkl)])
                  have x3 := pj_cell hbx8 0 _ rfl
                  have hjy := (hI8.jobs (yb, yp) (by simp)).2
                  have x2 : wr.cell? ⟨yb, 0, none⟩ = some (.int .i64 yp.task) := pj_cell hjy 0 _ rfl
                  have x5 : wr.cell? ⟨yb, 4, none⟩ = some (.int .i64 yp.blk) := pj_cell hjy 4 _ rfl
                  have f4 := blk_frozen hjy 4
                  obtain ⟨y0, y1⟩ := HB7.out _ hym
                  dsimp only at y0 y1
                  have hne3 : w5.heap.size ≠ yb := fun e => by
                    rw [e, hjy] at hbx8
                    injection hbx8 with h
                    injection h with _ h
                    exact absurd h (by decide)
                  have HTK := Aside0.mk htk
                  have HI9 := Aside0.mk hI8
                  have HBX := Aside0.mk hbx8
                  clear hI8 hbx8 hdr hym htk hpb hpt hjy hy HI8
                  by_cases hyt : yp.task < p.task
                  · go_wp2_with fail
                    go_region_held3 (fun w' => w'.cell? ⟨yb, 0, none⟩ = some (.int .i64 yp.task) ∧ w'.cell? ⟨w5.heap.size, 0, none⟩ = some (.pointer (some ⟨b, 0, none⟩)) ∧ w'.cell? ⟨b, 0, none⟩ = some (.int .i64 p.task)) (first | exact ⟨x2, x3, x4⟩ | go_keep) (fail)
                    go_wp2_with fail
                    refine ⟨⟨k + 1, rfl, by omega, by omega, ⟨?_⟩⟩, by simp [intOf]; omega⟩
                    rw [HTK.out]
                    exact ⟨HI9.out.drew.setJob 4 _ (q := hinder p.task yp) (by unfold hinder; rw [if_pos hyt]; rfl), (heap_setCell_other _ ⟨yb, 4, none⟩ _ _ hne3).trans HBX.out⟩
                  · go_wp2_with fail
                    go_region_held3 (fun w' => w'.cell? ⟨yb, 0, none⟩ = some (.int .i64 yp.task) ∧ w'.cell? ⟨w5.heap.size, 0, none⟩ = some (.pointer (some ⟨b, 0, none⟩)) ∧ w'.cell? ⟨b, 0, none⟩ = some (.int .i64 p.task)) (first | exact ⟨x2, x3, x4⟩ | go_keep) (fail)
                    go_wp2_with fail
                    refine ⟨⟨k + 1, rfl, by omega, by omega, ⟨?_⟩⟩, by simp [intOf]; omega⟩
                    have hh : hinder p.task yp = yp := by unfold hinder; rw [if_neg (by omega)]
                    rw [HTK.out, hh]
                    exact ⟨HI9.out.drew, HBX.out⟩
                  --K]
                · obtain ⟨hI8, hbx8⟩ := HI8.out
                  have hkL : k.toNat = wt7.length := by omega
                  rw [hkL, List.take_length, List.drop_length, List.append_nil, HW7.out, List.map_append, List.map_cons] at hI8
                  have hh : hinP p.task (b, runJob now p) = (b, runJob now p) := by unfold hinP; rw [hinder_self]
                  rw [hh] at hI8
                  have hjb := (hI8.jobs (b, runJob now p) (by simp)).2
                  obtain ⟨t0, t1, _⟩ := HJ5.out.jobs p (by simp)
                  obtain ⟨ad, A3, c3, hA, y0, _⟩ := at_T49 HR.out p.task t0 t1
                  subst hA
                  have x1 := (hI8.below.cell (World.block_lt_of_cell? w _ y0)).trans y0
                  have x2 := pj_cell hbx8 0 _ rfl
                  have x3 : wr.cell? ⟨b, 5, none⟩ = some (.int .i64 (p.done + 1)) := pj_cell hjb 5 _ rfl
                  have x4 : wr.cell? ⟨b, 0, none⟩ = some (.int .i64 p.task) := pj_cell hjb 0 _ rfl
                  have x5 : wr.cell? ⟨w.heap.size, 0, none⟩ = some (.slice (some ad) l0.length c0) := pj_cell hI8.boxl 0 _ rfl
                  have HI9 := Aside0.mk hI8
                  have HBX := Aside0.mk hbx8
                  have HJB := Aside0.mk hjb
                  clear hI8 hbx8 hjb y0 HI8 hh hkL HW7 HM7 HB7
                  have hL8 : (pre.map (hinP p.task) ++ (b, runJob now p) :: post.map (hinP p.task)).length = L := by simpa using hlen5
                  have hjm : ((pre ++ (b, p) :: post).map fun x : Nat × PJ => x.2) = pre.map (·.2) ++ p :: post.map (·.2) := by rw [List.map_append, List.map_cons]
                  have HJ8 := HJ5
                  rw [hjm] at HJ8
                  clear hjm
                  by_cases hfin : p.done + 1 = (rd_T49 l0 p.task).f0
                  · have hX : execV l0 now out nx (pre.map (·.2), p, post.map (·.2)) = ⟨nx, (pre.map (·.2)).map (hinder p.task) ++ (post.map (·.2)).map (hinder p.task), out ++ [jobOf { runJob now p with fin := now + 1 }]⟩ := by
                      unfold execV
                      rw [if_pos (show (runJob now p).done = (rd_T49 l0 p.task).f0 from hfin)]
                    have hN := HN5.out
                    rw [hX] at hN
                    have HN := Aside0.mk hN
                    have hfb : (p.done + 1 == (rd_T49 l0 p.task).f0) = true := beq_iff_eq.2 hfin
                    generalize (rd_T49 l0 p.task).f0 = cost at x1 hfb
                    have hI10 := HI9.out.setJob 3 (.int .i64 (now + 1)) (q := { runJob now p with fin := now + 1 }) rfl
                    have hj10 := (hI10.jobs _ (List.mem_append_right _ List.mem_cons_self)).2
                    have u0 : (wr.setCell ⟨b, 3, none⟩ (.int .i64 (now + 1))).drew.cell? ⟨b, 0, none⟩ = some (.int .i64 p.task) := pj_cell hj10 0 _ rfl
                    have u1 : (wr.setCell ⟨b, 3, none⟩ (.int .i64 (now + 1))).drew.cell? ⟨b, 1, none⟩ = some (.int .i64 p.rel) := pj_cell hj10 1 _ rfl
                    have u2 : (wr.setCell ⟨b, 3, none⟩ (.int .i64 (now + 1))).drew.cell? ⟨b, 2, none⟩ = some (.int .i64 (runJob now p).start) := pj_cell hj10 2 _ rfl
                    have u3 : (wr.setCell ⟨b, 3, none⟩ (.int .i64 (now + 1))).drew.cell? ⟨b, 3, none⟩ = some (.int .i64 (now + 1)) := pj_cell hj10 3 _ rfl
                    have u4 : (wr.setCell ⟨b, 3, none⟩ (.int .i64 (now + 1))).drew.cell? ⟨b, 4, none⟩ = some (.int .i64 p.blk) := pj_cell hj10 4 _ rfl
                    have hbx10 : (wr.setCell ⟨b, 3, none⟩ (.int .i64 (now + 1))).drew.heap[w5.heap.size]? = some (.cells #[.pointer (some ⟨b, 0, none⟩)] 80 (0, 0)) := (heap_setCell_other _ ⟨b, 3, none⟩ _ _ hne2).trans HBX.out
                    have u5 : (wr.setCell ⟨b, 3, none⟩ (.int .i64 (now + 1))).drew.cell? ⟨w5.heap.size, 0, none⟩ = some (.pointer (some ⟨b, 0, none⟩)) := pj_cell hbx10 0 _ rfl
                    have f3 : wr.drew.frozen? ⟨b, 3, none⟩ = false := blk_frozen HJB.out 3
                    have x6 : wr.drew.cell? ⟨b, 3, none⟩ = some (.int .i64 p.fin) := pj_cell HJB.out 3 _ rfl
                    have HI10 := Aside0.mk hI10
                    have HBX10 := Aside0.mk hbx10
                    clear hI10 hj10 hbx10 hfin HN5 hN hX
                    go_wp2_with fail
                    go_region_held3 (fun w' => w'.cell? (ad.add (p.task.toNat * 4)) = some (.int .i64 cost) ∧ w'.cell? ⟨w5.heap.size, 0, none⟩ = some (.pointer (some ⟨b, 0, none⟩)) ∧ w'.cell? ⟨b, 5, none⟩ = some (.int .i64 (p.done + 1)) ∧ w'.cell? ⟨b, 0, none⟩ = some (.int .i64 p.task) ∧ w'.cell? ⟨w.heap.size, 0, none⟩ = some (.slice (some ad) l0.length c0))
                      (first | exact ⟨x1, x2, x3, x4, x5⟩ | go_keep) (fail)
                    obtain ⟨b1, b2⟩ := SJ.wt HJ5.out hn20
                    obtain ⟨i34, hi34, hz34, hsz34, hby34⟩ := info_parts info34
                    have hszw := HI9.out.size
                    go_wp2_with (at_builtin; (refine wpList_append_lies _ rfl _ _ _ rfl w.heap.size 34 i34 _ 5 40 Try.underlying26 hi34 hz34 hsz34 hby34 rfl (by omega) vo out.length (out.flatMap cells34) rfl (HI10.out.alloc _).drew.outr ⟨wr.heap.size, 0, none⟩ 1 1 (cells34 (jobOf { runJob now p with fin := now + 1 })) rfl rfl (World.news_of_block (cs := #[.int .i64 p.task, .int .i64 p.rel, .int .i64 (runJob now p).start, .int .i64 (now + 1), .int .i64 p.blk]) (set_new _ _ _ _)) (by intro u hu; simp [cells34] at hu; rcases hu with rfl | rfl | rfl | rfl | rfl <;> rfl) (by omega) (by unfold maxLen; omega) (by omega) (by simp; omega) (wr.heap.size + 1) (by simp) ?_; intro g2 cap2 w10 hown10 hgrow10 hat10 hlt10; have hI11 := (HI10.out.alloc _).drew.ended hgrow10 hown10; have HI11 := Aside0.mk hI11; have HG11 := Aside0.mk hgrow10; clear hI11 hgrow10 hown10))
                    have hbx11 : w10.heap[w5.heap.size]? = some (.cells #[.pointer (some ⟨b, 0, none⟩)] 80 (0, 0)) :=
                      SI.keepOut (HI10.out.alloc _).drew HG11.out (by decide) ((Below.heap_alloc _ _ _ (blk_lt HBX10.out)).trans HBX10.out)
                    obtain ⟨q1, q2, q3⟩ := HI11.out.pend
                    have hL10 : (pre.map (hinP p.task) ++ (b, ({ runJob now p with fin := now + 1 } : PJ)) :: post.map (hinP p.task)).length = L := by simpa using hlen5
                    have hrow := HI11.out.wait
                    rw [hL10, List.map_append, List.map_cons] at hrow
                    refine (deleteP g cap b w5.heap.size w.heap.size L ((pre.map (hinP p.task)).map (·.1)) ((post.map (hinP p.task)).map (·.1)) w10 (by rw [← hL10]; simp) hrow q1 q2 q3 (by omega) (pj_cell hbx11 0 _ rfl) (Nat.ne_of_gt hgb)).mono ?_
                    rintro e w11 ⟨rfl, hrow11, hg11⟩
                    have hI12 := HI11.out.less (wt' := pre.map (hinP p.task) ++ post.map (hinP p.task)) hg11 (by
                      have e : (pre.map (hinP p.task) ++ post.map (hinP p.task)).length = L - 1 := by rw [← hL10]; simp
                      rw [e, List.map_append]
                      exact hrow11) (List.Sublist.append_left (List.sublist_cons_self _ _) _)
                    have HI12 := Aside0.mk hI12
                    clear hI12 hrow11 hg11 hrow q1 q2 q3 hbx11 hL10
                    go_wp2_with fail
                    have hwl : (pre.map (hinP p.task) ++ post.map (hinP p.task)).map (·.2) = (pre.map (·.2)).map (hinder p.task) ++ (post.map (·.2)).map (hinder p.task) := by
                      rw [List.map_append, hin_map, hin_map]
                    refine ⟨⟨now + 1, nx, pre.map (hinP p.task) ++ post.map (hinP p.task), out ++ [jobOf { runJob now p with fin := now + 1 }], rfl, by omega, by omega, HI12, ⟨by rw [hwl]; exact HJ8.out.fin⟩, ⟨by rw [hwl]; exact HN.out⟩⟩, by simp [intOf]; omega⟩
                  · have hX : execV l0 now out nx (pre.map (·.2), p, post.map (·.2)) = ⟨nx, (pre.map (·.2)).map (hinder p.task) ++ runJob now p :: (post.map (·.2)).map (hinder p.task), out⟩ := by
                      unfold execV
                      rw [if_neg (show ¬ (runJob now p).done = (rd_T49 l0 p.task).f0 from hfin)]
                    have hN := HN5.out
                    rw [hX] at hN
                    have hJ9 := HJ8.out.run hfin
                    have HJ9 := Aside0.mk hJ9
                    have HN := Aside0.mk hN
                    have hfb : (p.done + 1 == (rd_T49 l0 p.task).f0) = false := beq_eq_false_iff_ne.2 hfin
                    generalize (rd_T49 l0 p.task).f0 = cost at x1 hfb
                    clear hfin HN5 hN hX hJ9
                    go_wp2_with fail
                    go_region_held3 (fun w' => w'.cell? (ad.add (p.task.toNat * 4)) = some (.int .i64 cost) ∧ w'.cell? ⟨w5.heap.size, 0, none⟩ = some (.pointer (some ⟨b, 0, none⟩)) ∧ w'.cell? ⟨b, 5, none⟩ = some (.int .i64 (p.done + 1)) ∧ w'.cell? ⟨b, 0, none⟩ = some (.int .i64 p.task) ∧ w'.cell? ⟨w.heap.size, 0, none⟩ = some (.slice (some ad) l0.length c0))
                      (first | exact ⟨x1, x2, x3, x4, x5⟩ | go_keep) (fail)
                    go_wp2_with fail
                    have hI11 := HI9.out.drew
                    have hwl : (pre.map (hinP p.task) ++ (b, runJob now p) :: post.map (hinP p.task)).map (·.2) = (pre.map (·.2)).map (hinder p.task) ++ runJob now p :: (post.map (·.2)).map (hinder p.task) := by
                      rw [List.map_append, List.map_cons, hin_map, hin_map]
                    refine ⟨⟨now + 1, nx, pre.map (hinP p.task) ++ (b, runJob now p) :: post.map (hinP p.task), out, rfl, by omega, by omega, ⟨hI11⟩, ⟨by rw [hwl]; exact HJ9.out⟩, ⟨by rw [hwl]; exact HN.out⟩⟩, by simp [intOf]; omega⟩
    · have ha : (a2 - now).toNat = 0 := by omega
      have hT := HT.out
      rw [ha] at hT
      have hout : out = simV l0 l1 a2 := hT
      have HO := Aside0.mk hout
      clear hT ha hout
      go_wp2
      go_ret2
      exact ⟨_, rfl, by rw [← HO.out]; exact HI.out.outr, HI.out.below⟩

theorem reps34 {R : S34 → List Value → Prop} (h : ∀ p, R p (cells34 p)) : ∀ out : List S34, Reps R 5 out (out.flatMap cells34)
  | [] => Reps.none _ _
  | a :: r => by
    obtain ⟨h1, h2⟩ := reps34 h r
    refine ⟨by rw [List.flatMap_cons, List.length_append, h1, List.length_cons]; show 5 + _ = _; omega, fun j p hp => ?_⟩
    rw [List.flatMap_cons]
    cases j with
    | zero =>
      obtain rfl : a = p := by simpa using hp
      rw [Nat.zero_mul, List.drop_zero, List.take_append_of_le_length (by show 5 ≤ 5; omega)]
      exact h a
    | succ j =>
      have e : (cells34 a ++ r.flatMap cells34).drop ((j + 1) * 5) = (r.flatMap cells34).drop (j * 5) := by
        rw [show (j + 1) * 5 = (cells34 a).length + j * 5 by show _ = 5 + j * 5; omega, List.drop_append, List.drop_of_length_le (by omega), List.nil_append, Nat.add_sub_cancel_left]
      rw [e]
      exact h2 j p (by simpa using hp)
theorem row34 {w : World} {base : Nat} {v : Value} {out : List S34} (h : w.ownsRow base 34 5 v out.length (out.flatMap cells34)) : Kd.R k34 34 w base (fun _ => True) v out :=
  ⟨fun _ _ => trivial, _, h, reps34 (fun p => k34_mkM _ _ _ p) out⟩
set_option maxHeartbeats 8000000 in
set_option maxRecDepth 100000 in
theorem sim_refuse (k : Nat) (A0 : Option Addr) (c0 : Nat) (l0 : List (S49)) (A1 : Option Addr) (c1 : Nat) (l1 : List (List Int)) (a2 : Int) (e0 : Int) (w : World) (hr0 : Kd.C k49 w A0 l0.length l0) (hc0 : l0.length ≤ c0)
    (hr1 : Kd.C (Kd.slice 3 (Kd.int .i64)) w A1 l1.length l1) (hc1 : l1.length ≤ c1) (h : ceiling_admit.f k l0 l1 a2 = some e0) (he : e0 ≠ 0) :
    Calls Try.prog 21 #[.slice A0 l0.length c0, .slice A1 l1.length c1, .int .i64 a2] w fun e w' => e = .returned (.tuple #[.slice none 0 0, .int .i64 e0]) ∧ Below w.heap.size w w' := by
  have hu22 := Try.underlying22
  have HR := Aside0.mk hr0
  have HS := Aside0.mk hr1
  have HA := Aside0.mk h
  have HC0 := Aside0.mk hc0
  have HC1 := Aside0.mk hc1
  have hb : (e0 != 0) = true := bne_iff_ne.2 he
  clear hr0 hr1 h hc0 hc1
  go_enter Try.func21, Try.ntmps21
  go_wp2_with fail
  refine (ceiling_admit.calls k A0 c0 l0 A1 c1 l1 a2 e0 _ (Kd.C_below HR.out ((Below.refl _ _).alloc (Nat.le_refl _) _)) HC0.out (Kd.C_below HS.out ((Below.refl _ _).alloc (Nat.le_refl _) _)) HC1.out HA.out).mono ?_
  rintro e w1 ⟨rfl, hb1⟩
  have HB1 := Aside0.mk (below_step ((Below.refl _ w).alloc (Nat.le_refl _) _) hb1)
  clear hb1
  go_wp2
  go_ret2
  exact ⟨rfl, HB1.out⟩
theorem ceiling_Simulate.calls (k : Nat) (A0 : Option Addr) (c0 : Nat) (l0 : List (S49)) (A1 : Option Addr) (c1 : Nat) (l1 : List (List Int)) (a2 : Int) (r1 : List S34) (r2 : Int) (w : World) (hr0 : Kd.C k49 w A0 l0.length l0) (hc0 : l0.length ≤ c0)
    (hr1 : Kd.C (Kd.slice 3 (Kd.int .i64)) w A1 l1.length l1) (hc1 : l1.length ≤ c1) (h : ceiling_Simulate.f k l0 l1 a2 = some (r1, r2)) :
    Calls Try.prog 21 #[.slice A0 l0.length c0, .slice A1 l1.length c1, .int .i64 a2] w fun e w' => ∃ v0_ : Value, e = .returned (.tuple #[v0_, .int .i64 r2]) ∧ Kd.R k34 34 w' w.heap.size (fun _ => True) v0_ r1 ∧ Below w.heap.size w w' := by
  unfold ceiling_Simulate.f at h
  obtain ⟨e0, h1, h⟩ := Option.bind_eq_some_iff.mp h
  by_cases he : e0 = 0
  · subst he
    rw [if_pos rfl] at h
    by_cases hok : simOk l0 l1 a2 = true
    · rw [if_pos hok] at h
      obtain ⟨rfl, rfl⟩ := Prod.mk.inj (Option.some.inj h)
      exact (sim_run k A0 c0 l0 A1 c1 l1 a2 w hr0 hc0 hr1 hc1 hok h1).mono fun e w' ⟨v, e1, e2, e3⟩ => ⟨v, e1, row34 e2, e3⟩
    · rw [if_neg hok] at h
      cases h
  · rw [if_neg he] at h
    obtain ⟨rfl, rfl⟩ := Prod.mk.inj (Option.some.inj h)
    exact (sim_refuse k A0 c0 l0 A1 c1 l1 a2 e0 w hr0 hc0 hr1 hc1 h1 he).mono fun e w' ⟨e1, e2⟩ => ⟨_, e1, Kd.R_nil _ _ _ _ _, e2⟩

end Go.Proofs.Ytcmifojplgmgkaa.P
