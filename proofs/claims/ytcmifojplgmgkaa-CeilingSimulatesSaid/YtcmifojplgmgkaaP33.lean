-- written by wip/drive.py (a driver of this session's own over the kit's print.py)
import Derived.Deep.DeepCutAuto
import Derived.Test.YtcmifojplgmgkaaP0
import Derived.Test.YtcmifojplgmgkaaP32
namespace Go.Proofs.Ytcmifojplgmgkaa.P
open Go.RowKit Go.Proofs.YtcmifojplgmgkaaW.PrintWords Go.Proofs.YtcmifojplgmgkaaW.PrintLast Go.Proofs.YtcmifojplgmgkaaW.PrintMore
attribute [local go_sem] max2_int min2_int max_two min_two max_three min_three max_four min_four   -- for this text's walks alone
set_option linter.unusedVariables false
set_option linter.unusedSimpArgs false

-- PLUG
/-! ### ontimeref43_Simulate (function 34): by hand: stores into elements of an own row; one way -/
/-! #### struct type 97 -/
structure S97 where
  f0 : S64
  f1 : Int
def z97 : S97 := ⟨z64, (0 : Int)⟩
def k97 : Kd S97 := Kd.iso (Kd.pair k64 (Kd.int .i64)) (fun x : S97 => (x.f0, x.f1))
theorem k97_open {w : World} {x : S97} {cs : List Value} (h : k97.K w x cs) : cs = [.int .i64 x.f0.f0, .int .i64 x.f0.f1, .int .i64 x.f0.f2, .int .i64 x.f0.f3, .int .i64 x.f0.f4, .int .i64 x.f1] := by
  obtain ⟨_, _, rfl, s0, rfl⟩ := h
  obtain rfl := k64_open s0
  exact rfl
theorem k97_openM {w : World} {base : Nat} {ok : Nat → Prop} {x : S97} {cs : List Value} (h : k97.M w base ok x cs) : cs = [.int .i64 x.f0.f0, .int .i64 x.f0.f1, .int .i64 x.f0.f2, .int .i64 x.f0.f3, .int .i64 x.f0.f4, .int .i64 x.f1] := by
  obtain ⟨_, _, rfl, s0, rfl⟩ := h
  obtain rfl := k64_openM s0
  exact rfl
theorem k97_mk (w : World) (x : S97)  : k97.K w x [.int .i64 x.f0.f0, .int .i64 x.f0.f1, .int .i64 x.f0.f2, .int .i64 x.f0.f3, .int .i64 x.f0.f4, .int .i64 x.f1] := ⟨[.int .i64 x.f0.f0, .int .i64 x.f0.f1, .int .i64 x.f0.f2, .int .i64 x.f0.f3, .int .i64 x.f0.f4], [.int .i64 x.f1], rfl, (k64_mk w x.f0 ), rfl⟩
theorem k97_mkM (w : World) (base : Nat) (ok : Nat → Prop) (x : S97)  : k97.M w base ok x [.int .i64 x.f0.f0, .int .i64 x.f0.f1, .int .i64 x.f0.f2, .int .i64 x.f0.f3, .int .i64 x.f0.f4, .int .i64 x.f1] := ⟨[.int .i64 x.f0.f0, .int .i64 x.f0.f1, .int .i64 x.f0.f2, .int .i64 x.f0.f3, .int .i64 x.f0.f4], [.int .i64 x.f1], rfl, (k64_mkM w base ok x.f0 ), rfl⟩
theorem k97_mkF (W : World) (ok : Nat → Prop) (x : S97) : Kd.FK k97 W ok x [.int .i64 x.f0.f0, .int .i64 x.f0.f1, .int .i64 x.f0.f2, .int .i64 x.f0.f3, .int .i64 x.f0.f4, .int .i64 x.f1] := fun W2 _ => k97_mk W2 x
def rd_T97 (xs : List S97) (i : Int) : S97 := xs.getD i.toNat z97
theorem at_T97 {w : World} {A : Option Addr} {n : Nat} {xs : List S97} (h : Kd.C k97 w A n xs) (i : Int) (h0 : 0 ≤ i) (h1 : i < n) : ∃ ad , A = some ad ∧ w.cell? (ad.add (i.toNat * 6)) = some (.int .i64 (rd_T97 xs i).f0.f0) ∧ w.cell? ⟨(ad.add (i.toNat * 6)).block, (ad.add (i.toNat * 6)).off + 1, none⟩ = some (.int .i64 (rd_T97 xs i).f0.f1) ∧ w.cell? ⟨(ad.add (i.toNat * 6)).block, (ad.add (i.toNat * 6)).off + 2, none⟩ = some (.int .i64 (rd_T97 xs i).f0.f2) ∧ w.cell? ⟨(ad.add (i.toNat * 6)).block, (ad.add (i.toNat * 6)).off + 3, none⟩ = some (.int .i64 (rd_T97 xs i).f0.f3) ∧ w.cell? ⟨(ad.add (i.toNat * 6)).block, (ad.add (i.toNat * 6)).off + 4, none⟩ = some (.int .i64 (rd_T97 xs i).f0.f4) ∧ w.cell? ⟨(ad.add (i.toNat * 6)).block, (ad.add (i.toNat * 6)).off + 5, none⟩ = some (.int .i64 (rd_T97 xs i).f1) := by
  obtain ⟨ad, c, e, _, hK, hc0⟩ := Kd.C_get h z97 i h0 h1
  have hc : ∀ j u, c[j]? = some u → w.cell? (ad.add (i.toNat * 6 + j)) = some u := hc0
  obtain rfl := k97_open hK
  exact ⟨ad, e, hc 0 _ rfl, by rw [← add_field _ _ 1 (by omega)]; exact hc 1 _ rfl, by rw [← add_field _ _ 2 (by omega)]; exact hc 2 _ rfl, by rw [← add_field _ _ 3 (by omega)]; exact hc 3 _ rfl, by rw [← add_field _ _ 4 (by omega)]; exact hc 4 _ rfl, by rw [← add_field _ _ 5 (by omega)]; exact hc 5 _ rfl⟩
/-- All releases as pending jobs, task by task. -/
def rPendGo : Nat → List (List Int) → List S97
  | _, [] => []
  | i, ts :: r => ts.map (fun x => (⟨⟨(i : Int), x, -1, 0, 0⟩, 0⟩ : S97)) ++ rPendGo (i + 1) r
def rOpen (now : Int) (p : S97) : Bool := decide (p.f0.f1 ≤ now) && decide (p.f0.f3 = 0)
def rBef (k : Nat) (l : List S93) (p q : S97) : Option Bool := ontimeref43_before.f k l p.f0.f0 p.f0.f1 p.f0.f2 p.f0.f3 p.f0.f4 p.f1 q.f0.f0 q.f0.f1 q.f0.f2 q.f0.f3 q.f0.f4 q.f1
/-- The choice: the first of the least among those that are open. -/
def rPick (k : Nat) (l : List S93) (now : Int) (rows : List S97) : Nat → Int → Int → Option Int
  | 0, _, best => some best
  | n + 1, i, best => if rOpen now (rd_T97 rows i) = true then (if best < 0 then rPick k l now rows n (i + 1) i else (rBef k l (rd_T97 rows i) (rd_T97 rows best)).bind fun b => if b = true then rPick k l now rows n (i + 1) i else rPick k l now rows n (i + 1) best)
      else rPick k l now rows n (i + 1) best
def rHind (now task : Int) (p : S97) : S97 := if rOpen now p = true ∧ p.f0.f0 < task then ⟨⟨p.f0.f0, p.f0.f1, p.f0.f2, p.f0.f3, p.f0.f4 + 1⟩, p.f1⟩ else p
def rBeg (now : Int) (p : S97) : S97 := if p.f1 = 0 then ⟨⟨p.f0.f0, p.f0.f1, now, p.f0.f3, p.f0.f4⟩, p.f1⟩ else p
def rInc (p : S97) : S97 := ⟨p.f0, p.f1 + 1⟩
def rStop (now : Int) (p : S97) : S97 := ⟨⟨p.f0.f0, p.f0.f1, p.f0.f2, now + 1, p.f0.f4⟩, p.f1⟩
structure RS where
  rows : List S97
  out : List S64
  run : List Int
/-- All numbers are small, and a task is named. -/
def rOkP (l : List S93) (p : S97) : Bool := decide (0 ≤ p.f0.f0 ∧ p.f0.f0 < l.length ∧ 0 ≤ p.f0.f4 ∧ p.f0.f4 ≤ 1000000 ∧ 0 ≤ p.f1 ∧ p.f1 ≤ 1000000)
def rOk (l : List S93) (s : RS) : Bool := decide (s.rows.length ≤ 1000000 ∧ s.out.length ≤ 1000000 ∧ s.run.length ≤ 1000000) && s.rows.all (rOkP l)
/-- What a unit does to the chosen row. -/
def rExec (l : List S93) (now : Int) (s : RS) (b task : Int) (p : S97) : RS :=
  if p.f1 = (rd_T93 l task).f0 then ⟨(s.rows.map (rHind now task)).set b.toNat (rStop now p), s.out ++ [(rStop now p).f0], s.run ++ [task]⟩
  else ⟨(s.rows.map (rHind now task)).set b.toNat p, s.out, s.run ++ [task]⟩
def rDo (l : List S93) (now : Int) (s : RS) (b : Int) : RS :=
  rExec l now s b (rd_T97 s.rows b).f0.f0 (rInc (rBeg now (rd_T97 (s.rows.map (rHind now (rd_T97 s.rows b).f0.f0)) b)))
def rUnit (k : Nat) (l : List S93) (now : Int) (s : RS) : Option RS := if rOk l s = true then (rPick k l now s.rows s.rows.length 0 (-1)).bind fun b => if b < 0 then some ⟨s.rows, s.out, s.run ++ [-1]⟩ else some (rDo l now s b) else none
def rGo (k : Nat) (l : List S93) : Nat → Int → RS → Option RS
  | 0, _, s => some s
  | n + 1, now, s => (rUnit k l now s).bind fun s' => rGo k l n (now + 1) s'
def rFit (l : List S93) (rel : List (List Int)) (a : Int) : Bool := decide (rel.length = l.length ∧ l.length ≤ 20 ∧ 0 ≤ a ∧ a ≤ 1000) && rel.all (fun r => decide (r.length ≤ 1000))
def ontimeref43_Simulate.f (k : Nat) (l : List S93) (rel : List (List Int)) (a : Int) : Option (List S64 × List Int) :=
  if rFit l rel a = true then (rGo k l a.toNat 0 ⟨rPendGo 0 rel, [], []⟩).bind fun s => some (s.out, s.run) else none
theorem rPick.mono (k : Nat) (l : List S93) (now : Int) (rows : List S97) : ∀ (n : Nat) (i best : Int), LeO (rPick k l now rows n i best) (rPick (k + 1) l now rows n i best)
  | 0, _, _ => LeO.refl _
  | n + 1, i, best => by
    unfold rPick
    refine LeO.ite (LeO.ite (rPick.mono k l now rows n _ _) (LeO.bind (ontimeref43_before.mono _ _ _ _ _ _ _ _ _ _ _ _ _ _) fun b => LeO.ite (rPick.mono k l now rows n _ _) (rPick.mono k l now rows n _ _))) (rPick.mono k l now rows n _ _)
theorem rUnit.mono (k : Nat) (l : List S93) (now : Int) (s : RS) : LeO (rUnit k l now s) (rUnit (k + 1) l now s) := by
  unfold rUnit
  exact LeO.ite (LeO.bind (rPick.mono _ _ _ _ _ _ _) fun b => LeO.refl _) (LeO.refl _)
theorem rGo.mono (k : Nat) (l : List S93) : ∀ (n : Nat) (now : Int) (s : RS), LeO (rGo k l n now s) (rGo (k + 1) l n now s)
  | 0, _, _ => LeO.refl _
  | n + 1, now, s => by
    unfold rGo
    exact LeO.bind (rUnit.mono _ _ _ _) fun s' => rGo.mono k l n _ s'
theorem ontimeref43_Simulate.mono : ∀ a0 a1 a2 k, LeO (ontimeref43_Simulate.f k a0 a1 a2) (ontimeref43_Simulate.f (k + 1) a0 a1 a2) := by
  intro a0 a1 a2 k
  unfold ontimeref43_Simulate.f
  exact LeO.ite (LeO.bind (rGo.mono _ _ _ _ _) fun _ => LeO.refl _) (LeO.refl _)
theorem rPend_take : ∀ (i : Nat) (rel : List (List Int)) (n : Nat) (h : n < rel.length), rPendGo i (rel.take (n + 1)) = rPendGo i (rel.take n) ++ rel[n].map (fun x => (⟨⟨((i + n : Nat) : Int), x, -1, 0, 0⟩, 0⟩ : S97))
  | i, [], n, h => by simp at h
  | i, ts :: r, 0, h => by simp [rPendGo]
  | i, ts :: r, n + 1, h => by
    have ih := rPend_take (i + 1) r n (by simpa using h)
    rw [List.take_succ_cons, List.take_succ_cons]
    show ts.map _ ++ rPendGo (i + 1) (r.take (n + 1)) = (ts.map _ ++ rPendGo (i + 1) (r.take n)) ++ _
    rw [ih, List.append_assoc, List.getElem_cons_succ, show i + 1 + n = i + (n + 1) by omega]
theorem rPend_len : ∀ (i : Nat) (rel : List (List Int)), (∀ r ∈ rel, r.length ≤ 1000) → (rPendGo i rel).length ≤ 1000 * rel.length
  | _, [], _ => by simp [rPendGo]
  | i, ts :: r, h => by
    have h1 := rPend_len (i + 1) r (fun x hx => h x (List.mem_cons_of_mem _ hx))
    have h2 := h ts List.mem_cons_self
    show (ts.map _ ++ rPendGo (i + 1) r).length ≤ _
    rw [List.length_append, List.length_map, List.length_cons, Nat.mul_succ]
    omega
theorem info97 : (Try.prog.info? 97).map (fun i => (i.zero, i.size, i.bytes)) = some (some (.agg #[(.int .i64 0), (.int .i64 0), (.int .i64 0), (.int .i64 0), (.int .i64 0), (.int .i64 0)]), 6, 48) := by kernel_rfl
theorem info64 : (Try.prog.info? 64).map (fun i => (i.zero, i.size, i.bytes)) = some (some (.agg #[(.int .i64 0), (.int .i64 0), (.int .i64 0), (.int .i64 0), (.int .i64 0)]), 5, 40) := by kernel_rfl
def cells97 (x : S97) : List Value := [.int .i64 x.f0.f0, .int .i64 x.f0.f1, .int .i64 x.f0.f2, .int .i64 x.f0.f3, .int .i64 x.f0.f4, .int .i64 x.f1]
def cells64 (x : S64) : List Value := [.int .i64 x.f0, .int .i64 x.f1, .int .i64 x.f2, .int .i64 x.f3, .int .i64 x.f4]
/-- What a walk through the reference's simulation holds. -/
structure RW (w wr : World) (v8 v11 v12 : Value) (rows : List S97) (out : List S64) (run : List Int) : Prop where
  b : Below w.heap.size w wr
  r8 : Kd.R k97 97 wr w.heap.size (fun _ => True) v8 rows
  r11 : Kd.R k64 64 wr w.heap.size (fun _ => True) v11 out
  r12 : Kd.R (Kd.int .i64) 3 wr w.heap.size (fun _ => True) v12 run
section
variable {w wr w' : World} {v8 v11 v12 : Value} {rows : List S97} {out : List S64} {run : List Int} {g n cap : Nat}
theorem RW.step (h : RW w wr v8 v11 v12 rows out run) (hb : Below wr.heap.size wr w') : RW w w' v8 v11 v12 rows out run :=
  ⟨below_step h.b hb, Kd.R_below h.r8 hb, Kd.R_below h.r11 hb, Kd.R_below h.r12 hb⟩
theorem RW.drew (h : RW w wr v8 v11 v12 rows out run) : RW w wr.drew v8 v11 v12 rows out run := h.step (below_drew (Below.refl _ _))
theorem RW.drewN (h : RW w wr v8 v11 v12 rows out run) (m : Nat) : RW w (wr.drewN m) v8 v11 v12 rows out run := h.step (pw_below_drewN (Below.refl _ _) m)
theorem RW.at (h : RW w wr (.slice (some ⟨g, 0, none⟩) n cap) v11 v12 rows out run) (i : Int) (h0 : 0 ≤ i) (h1 : i < n) :
    wr.cell? ⟨g, i.toNat * 6, none⟩ = some (.int .i64 (rd_T97 rows i).f0.f0) ∧ wr.cell? ⟨g, i.toNat * 6 + 1, none⟩ = some (.int .i64 (rd_T97 rows i).f0.f1) ∧ wr.cell? ⟨g, i.toNat * 6 + 2, none⟩ = some (.int .i64 (rd_T97 rows i).f0.f2) ∧
      wr.cell? ⟨g, i.toNat * 6 + 3, none⟩ = some (.int .i64 (rd_T97 rows i).f0.f3) ∧ wr.cell? ⟨g, i.toNat * 6 + 4, none⟩ = some (.int .i64 (rd_T97 rows i).f0.f4) ∧ wr.cell? ⟨g, i.toNat * 6 + 5, none⟩ = some (.int .i64 (rd_T97 rows i).f1) ∧ ∀ j, wr.frozen? ⟨g, i.toNat * 6 + j, none⟩ = false := by
  obtain ⟨c, hcl, hM, hcc, hfr⟩ := Kd.R_elem h.r8 z97 i h0 h1
  obtain rfl := k97_openM hM
  exact ⟨hcc 0 _ rfl, hcc 1 _ rfl, hcc 2 _ rfl, hcc 3 _ rfl, hcc 4 _ rfl, hcc 5 _ rfl, hfr⟩
theorem RW.put (h : RW w wr (.slice (some ⟨g, 0, none⟩) n cap) v11 v12 rows out run) (i : Int) (h0 : 0 ≤ i) (h1 : i < n) (j : Nat) (u : Value) (x' : S97) (hj : j < 6) (hx : (cells97 (rd_T97 rows i)).take j ++ [u] ++ (cells97 (rd_T97 rows i)).drop (j + 1) = cells97 x') :
    RW w (wr.setCell ⟨g, i.toNat * 6 + j, none⟩ u) (.slice (some ⟨g, 0, none⟩) n cap) v11 v12 (rows.set i.toNat x') out run := by
  obtain ⟨c, hcl, hM, hcc, hfr⟩ := Kd.R_elem h.r8 z97 i h0 h1
  obtain rfl := k97_openM hM
  obtain ⟨h2, h3⟩ := Kd.R_seg h.r8 i h0 h1 (seg := [u]) (j := j) hcl hcc (show j + 1 ≤ 6 by omega) (x' := x') (okp := fun _ => False) (by
    have e : k97.M wr w.heap.size (fun _ => False) x' (cells97 x') := k97_mkM _ _ _ x'
    rw [← hx] at e
    exact e) (fun _ hk => hk.elim)
  have hbg : w.heap.size ≤ g := Kd.R_base h.r8 g (by simp [Value.ownBlock])
  exact ⟨h.b.setCell (p := ⟨g, i.toNat * 6 + j, none⟩) hbg _, h2, Kd.R_over h.r11 h.r8 (by decide) h3, Kd.R_over h.r12 h.r8 (by decide) h3⟩
theorem RW.form (h : RW w wr v8 v11 v12 rows out run) (hp : 0 < rows.length) : ∃ g cap, v8 = .slice (some ⟨g, 0, none⟩) rows.length cap := by
  obtain ⟨g, cap, h1, _⟩ := Kd.R_form h.r8 hp
  exact ⟨g, cap, h1⟩
theorem RW.more12 (h : RW w wr v8 v11 v12 rows out run) {v : Value} {run' : List Int} (hg : wr.grownBy w' v12.ownBlock) (hr : Kd.R (Kd.int .i64) 3 w' w.heap.size (fun _ => True) v run') (hb : Below w.heap.size w w') : RW w w' v8 v11 v rows out run' :=
  ⟨hb, Kd.R_over h.r8 h.r12 (by decide) hg, Kd.R_over h.r11 h.r12 (by decide) hg, hr⟩
theorem RW.more11 (h : RW w wr v8 v11 v12 rows out run) {v : Value} {out' : List S64} (hg : wr.grownBy w' v11.ownBlock) (hr : Kd.R k64 64 w' w.heap.size (fun _ => True) v out') (hb : Below w.heap.size w w') : RW w w' v8 v v12 rows out' run :=
  ⟨hb, Kd.R_over h.r8 h.r11 (by decide) hg, hr, Kd.R_over h.r12 h.r11 (by decide) hg⟩
end
theorem rd97_set {rows : List S97} {i : Nat} {x : S97} (h : i < rows.length) : rd_T97 (rows.set i x) (i : Int) = x := by
  unfold rd_T97
  rw [Int.toNat_natCast, List.getD_eq_getElem?_getD, List.getElem?_set_self h]
  rfl
theorem rd97_set' {rows : List S97} {i : Int} {x : S97} (h0 : 0 ≤ i) (h : i < rows.length) : rd_T97 (rows.set i.toNat x) i = x := by
  have := rd97_set (rows := rows) (i := i.toNat) (x := x) (by omega)
  rwa [Int.toNat_of_nonneg h0] at this
theorem rd97_mem {rows : List S97} {i : Int} (h0 : 0 ≤ i) (h : i < rows.length) : rd_T97 rows i ∈ rows := by
  unfold rd_T97
  rw [List.getD_eq_getElem?_getD, List.getElem?_eq_getElem (by omega)]
  exact List.getElem_mem _
theorem rd97_eq {rows : List S97} {i : Nat} (h : i < rows.length) : rd_T97 rows (i : Int) = rows[i] := by
  unfold rd_T97
  rw [Int.toNat_natCast, List.getD_eq_getElem?_getD, List.getElem?_eq_getElem h]
  rfl
/-- The rows when i of them are hindered. -/
def rMix (now task : Int) (rows : List S97) (i : Nat) : List S97 := (rows.take i).map (rHind now task) ++ rows.drop i
theorem rMix_len (now task : Int) (rows : List S97) (i : Nat) : (rMix now task rows i).length = rows.length := by
  unfold rMix
  rw [List.length_append, List.length_map, List.length_take, List.length_drop]
  omega
theorem rMix_at {now task : Int} {rows : List S97} {i : Nat} (h : i < rows.length) : rd_T97 (rMix now task rows i) (i : Int) = rows[i] := by
  rw [rd97_eq (by rw [rMix_len]; exact h)]
  unfold rMix
  rw [List.getElem_append_right (by rw [List.length_map, List.length_take]; omega)]
  simp [List.length_take, Nat.min_eq_left (Nat.le_of_lt h)]
theorem rMix_next {now task : Int} {rows : List S97} {i : Nat} (h : i < rows.length) : (rMix now task rows i).set i (rHind now task rows[i]) = rMix now task rows (i + 1) := by
  unfold rMix
  have hl : ((rows.take i).map (rHind now task)).length = i := by rw [List.length_map, List.length_take]; omega
  rw [List.set_append_right _ _ (by rw [hl]; exact Nat.le_refl _), hl, Nat.sub_self, List.drop_eq_getElem_cons h, List.set_cons_zero, List.take_succ_eq_append_getElem h, List.map_append, List.append_assoc]
  rfl
theorem rMix_same {now task : Int} {rows : List S97} {i : Nat} (h : i < rows.length) (he : rHind now task rows[i] = rows[i]) : rMix now task rows (i + 1) = rMix now task rows i := by
  rw [← rMix_next h, he]
  have h2 := rMix_at (now := now) (task := task) h
  rw [rd97_eq (by rw [rMix_len]; exact h)] at h2
  rw [← h2, List.set_getElem_self]
theorem rMix_zero (now task : Int) (rows : List S97) : rMix now task rows 0 = rows := rfl
theorem rMix_all (now task : Int) (rows : List S97) : rMix now task rows rows.length = rows.map (rHind now task) := by
  unfold rMix
  rw [List.take_length, List.drop_length, List.append_nil]
theorem rOk_of {l : List S93} {s : RS} (h : rOk l s = true) : s.rows.length ≤ 1000000 ∧ s.out.length ≤ 1000000 ∧ s.run.length ≤ 1000000 ∧ ∀ p ∈ s.rows, 0 ≤ p.f0.f0 ∧ p.f0.f0 < l.length ∧ 0 ≤ p.f0.f4 ∧ p.f0.f4 ≤ 1000000 ∧ 0 ≤ p.f1 ∧ p.f1 ≤ 1000000 := by
  unfold rOk at h
  rw [Bool.and_eq_true] at h
  obtain ⟨h1, h2, h3⟩ := of_decide_eq_true h.1
  exact ⟨h1, h2, h3, fun p hp => of_decide_eq_true (List.all_eq_true.1 h.2 p hp)⟩
theorem rFit_of {l : List S93} {rel : List (List Int)} {a : Int} (h : rFit l rel a = true) : rel.length = l.length ∧ l.length ≤ 20 ∧ 0 ≤ a ∧ a ≤ 1000 ∧ ∀ r ∈ rel, r.length ≤ 1000 := by
  unfold rFit at h
  rw [Bool.and_eq_true] at h
  obtain ⟨h1, h2, h3, h4⟩ := of_decide_eq_true h.1
  exact ⟨h1, h2, h3, h4, fun p hp => of_decide_eq_true (List.all_eq_true.1 h.2 p hp)⟩
set_option maxHeartbeats 8000000 in
set_option maxRecDepth 100000 in
theorem ref_run (k : Nat) (A0 : Option Addr) (c0 : Nat) (l0 : List S93) (A1 : Option Addr) (c1 : Nat) (l1 : List (List Int)) (a2 : Int) (s : RS) (w : World) (hr0 : Kd.C k93 w A0 l0.length l0) (hc0 : l0.length ≤ c0)
    (hr1 : Kd.C (Kd.slice 3 (Kd.int .i64)) w A1 l1.length l1) (hc1 : l1.length ≤ c1) (hok : rFit l0 l1 a2 = true) (h : rGo k l0 a2.toNat 0 ⟨rPendGo 0 l1, [], []⟩ = some s) :
    Calls Try.prog 34 #[.slice A0 l0.length c0, .slice A1 l1.length c1, .int .i64 a2] w fun e w' => ∃ v0_ v1_ : Value, e = .returned (.tuple #[v0_, v1_]) ∧ Kd.R k64 64 w' w.heap.size (fun _ => True) v0_ s.out ∧ Kd.R (Kd.int .i64) 3 w' w.heap.size (fun _ => True) v1_ s.run ∧ Below w.heap.size w w' := by
  have hu93 := Try.underlying93
  have hu97 := Try.underlying97
  have hu64 := Try.underlying64
  have hu43 := Try.underlying43
  have hu95 := Try.underlying95
  have HR := Aside0.mk hr0
  have HS := Aside0.mk hr1
  have HC0 := Aside0.mk hc0
  have HC1 := Aside0.mk hc1
  obtain ⟨hlen, hn20, a0, a1, hlens⟩ := rFit_of hok
  have HLEN := Aside0.mk hlen
  have HLENS := Aside0.mk hlens
  have HGO := Aside0.mk h
  clear hr0 hr1 h hok hc0 hc1 hlen hlens
  go_enter Try.func34, Try.ntmps34
  go_wp2_with fail
  go_loopw [8, 9] (fun v8 v9 wr => ∃ (i : Int), v9 = .int .i64 i ∧ 0 ≤ i ∧ i ≤ l0.length ∧ Aside0 (Below w.heap.size w wr ∧ Kd.R k97 97 wr w.heap.size (fun _ => True) v8 (rPendGo 0 (l1.take i.toNat)))) (fun _ v _ => l0.length - (intOf v).toNat)
  case atStart => exact ⟨0, rfl, by omega, by omega, ⟨Below.refl _ _, Kd.R_nil _ _ _ _ _⟩⟩
  case round =>
    obtain ⟨v8, rfl⟩ : ∃ v, v = u8 := ⟨_, rfl⟩
    obtain ⟨i, rfl, i0, i1, HI⟩ := hrel
    by_cases hi : i < l0.length
    · --[R
      have hi' : i < (l1.length : Int) := by have := HLEN.out; omega
      have hin : i.toNat < l1.length := by omega
      obtain ⟨ad, A3, c3, hA, y0, y1, y2⟩ := at_L5 HS.out i i0 hi'
      subst hA
      have HTI := Aside0.mk y2
      have HTC := Aside0.mk y1
      have HTA := Aside0.mk y0
      have hte := rPend_take 0 l1 i.toNat hin
      have hie : rd_L5 l1 i = l1[i.toNat] := by
        unfold rd_L5
        rw [List.getD_eq_getElem?_getD, List.getElem?_eq_getElem hin]
        rfl
      rw [← hie, Nat.zero_add, Int.toNat_of_nonneg i0] at hte
      have hti2 : (rd_L5 l1 i).length ≤ 1000 := HLENS.out _ (by rw [hie]; exact List.getElem_mem _)
      have hpl : (rPendGo 0 (l1.take i.toNat)).length ≤ 20000 := by
        have := rPend_len 0 (l1.take i.toNat) (fun r hr => HLENS.out r (List.mem_of_mem_take hr))
        rw [List.length_take] at this
        omega
      clear y0 y1 y2 hie
      generalize rd_L5 l1 i = ti at HTA HTC HTI hte hti2
      generalize rPendGo 0 (l1.take i.toNat) = P0 at HI hte hpl
      have HTE := Aside0.mk hte
      clear hte
      obtain ⟨wp, rfl⟩ : ∃ wp : World, wp = wr := ⟨_, rfl⟩
      go_wp2_with fail
      go_loopw [8, 10] (fun v8 v10 wr => ∃ (q : Int), v10 = .int .i64 q ∧ 0 ≤ q ∧ q ≤ ti.length ∧ Aside0 (Below w.heap.size w wr ∧ Kd.R k97 97 wr w.heap.size (fun _ => True) v8 (P0 ++ (ti.take q.toNat).map (fun x => (⟨⟨i, x, -1, 0, 0⟩, 0⟩ : S97))))) (fun _ v _ => ti.length - (intOf v).toNat)
      case atStart => exact ⟨0, rfl, by omega, by omega, ⟨HI.out.1, by rw [show (0 : Int).toNat = 0 from rfl, List.take_zero, List.map_nil, List.append_nil]; exact HI.out.2⟩⟩
      case round =>
        clear HI
        obtain ⟨v8, rfl⟩ : ∃ v, v = u8 := ⟨_, rfl⟩
        obtain ⟨q, rfl, q0, q1, HI⟩ := hrel
        have x0 := (HI.out.1.cell (World.block_lt_of_cell? w _ HTA.out)).trans HTA.out
        by_cases hq : q < ti.length
        · obtain ⟨ad2, hA, y2⟩ := Kd.at_int HTI.out q q0 hq
          subst hA
          have x2 := (HI.out.1.cell (World.block_lt_of_cell? w _ y2)).trans y2
          have hqe : rd ti q = ti[q.toNat] := by
            unfold rd
            rw [List.getD_eq_getElem?_getD, List.getElem?_eq_getElem (by omega)]
            rfl
          have htk : (ti.take (q.toNat + 1)).map (fun x => (⟨⟨i, x, -1, 0, 0⟩, 0⟩ : S97)) = (ti.take q.toNat).map (fun x => (⟨⟨i, x, -1, 0, 0⟩, 0⟩ : S97)) ++ [⟨⟨i, rd ti q, -1, 0, 0⟩, 0⟩] := by
            rw [List.take_succ_eq_append_getElem (show q.toNat < ti.length by omega), List.map_append, hqe]
            rfl
          have HTK := Aside0.mk htk
          clear y2 hqe htk
          generalize rd ti q = tx at x2 HTK
          have hrl : (P0 ++ (ti.take q.toNat).map (fun x => (⟨⟨i, x, -1, 0, 0⟩, 0⟩ : S97))).length ≤ 30000 := by
            rw [List.length_append, List.length_map, List.length_take]; omega
          generalize hrows : P0 ++ (ti.take q.toNat).map (fun x => (⟨⟨i, x, -1, 0, 0⟩, 0⟩ : S97)) = rows at HI hrl
          have HROWS := Aside0.mk hrows
          clear hrows
          go_wp2_with ((with_reducible refine gate_builtin (b := .append) (xs := #[.tmp 33, .tmp 44]) rfl ?_); at_builtin; refine Kd.R_append k97 (w0 := w) w.heap.size rfl (.tmp 33) (.tmp 44) 95 97 (.agg #[(.int .i64 0), (.int .i64 0), (.int .i64 0), (.int .i64 0), (.int .i64 0), (.int .i64 0)]) 48 rfl Try.underlying95 info97 rfl (by decide) (by omega) v8 rows (⟨⟨i, tx, -1, 0, 0⟩, 0⟩ : S97) [.int .i64 i, .int .i64 tx, .int .i64 (-1), .int .i64 0, .int .i64 0, .int .i64 0] (fun _ => True) (fun _ => False) rfl (by first | (go_simp; done) | (go_simp; rfl)) (k97_mkM _ _ _ (⟨⟨i, tx, -1, 0, 0⟩, 0⟩ : S97)) (fun _ hk => hk.elim) (fun _ _ => trivial) HI.out.2 HI.out.1 HI.out.1.size (by omega) ?_; intro v33 w4 ho4 hb4 hg4 hat4; have HI4 := Aside0.mk (And.intro hb4 ho4); clear ho4 hb4 hg4 hat4)
          refine ⟨⟨q + 1, rfl, by omega, by omega, ⟨HI4.out.1, ?_⟩⟩, by simp [intOf]; omega⟩
          rw [show (q + 1).toNat = q.toNat + 1 by omega, HTK.out, ← List.append_assoc, HROWS.out]
          exact HI4.out.2
        · go_wp2_with fail
          have hqe : q.toNat = ti.length := by omega
          refine ⟨⟨i + 1, rfl, by omega, by omega, ⟨HI.out.1, ?_⟩⟩, by simp [intOf]; omega⟩
          rw [show (i + 1).toNat = i.toNat + 1 by omega, HTE.out]
          have := HI.out.2
          rw [hqe, List.take_length] at this
          exact this
    · have hie : i.toNat = l1.length := by have := HLEN.out; omega
      have hI := HI.out
      rw [hie, List.take_length] at hI
      have hL := rPend_len 0 l1 HLENS.out
      have HW0 := RW.mk (w := w) (v11 := .slice none 0 0) (v12 := .slice none 0 0) hI.1 hI.2 (Kd.R_nil k64 64 wr _ _) (Kd.R_nil (Kd.int .i64) 3 wr _ _)
      have hF : ∃ L A8 c8, v8 = .slice A8 L c8 ∧ L = (rPendGo 0 l1).length ∧ (0 < L → ∃ g, A8 = some ⟨g, 0, none⟩) := by
        rcases Nat.eq_zero_or_pos (rPendGo 0 l1).length with h0 | h0
        · obtain ⟨A8, c8, e⟩ := Kd.R_slice HW0.r8
          exact ⟨_, A8, c8, e, rfl, fun h => by omega⟩
        · obtain ⟨g, cap, e⟩ := HW0.form h0
          exact ⟨_, _, cap, e, rfl, fun _ => ⟨g, rfl⟩⟩
      obtain ⟨L, A8, c8, rfl, hLe, hF⟩ := hF
      have HF := Aside0.mk hF
      have HW := Aside0.mk HW0
      have hlL : L ≤ 20000 := by have := HLEN.out; omega
      have HLE := Aside0.mk hLe.symm
      clear hLe
      clear hI HI hie HW0 hF hL
      obtain ⟨wo, rfl⟩ : ∃ wo : World, wo = wr := ⟨_, rfl⟩
      go_wp2_with fail
      go_loopw [11, 12, 13] (fun v11 v12 v13 wr => ∃ (now : Int) (st : RS), v13 = .int .i64 now ∧ 0 ≤ now ∧ now ≤ a2 ∧ st.rows.length = L ∧ Aside0 (RW w wr (.slice A8 L c8) v11 v12 st.rows st.out st.run) ∧ Aside0 (rGo k l0 (a2 - now).toNat now st = some s)) (fun _ _ v _ => (a2 - intOf v).toNat)
      case atStart => exact ⟨0, ⟨rPendGo 0 l1, [], []⟩, rfl, by omega, by omega, HLE.out, HW, ⟨by rw [Int.sub_zero]; exact HGO.out⟩⟩
      case round =>
        clear HW HGO HLE
        obtain ⟨v11, rfl⟩ : ∃ v, v = u11 := ⟨_, rfl⟩
        obtain ⟨v12, rfl⟩ : ∃ v, v = u12 := ⟨_, rfl⟩
        obtain ⟨now, st, rfl, n0, n1, hrl, HW, HG⟩ := hrel
        by_cases hnow : now < a2
        · have hg := HG.out
          rw [show (a2 - now).toNat = (a2 - (now + 1)).toNat + 1 by omega] at hg
          obtain ⟨st', hu, hg⟩ := Option.bind_eq_some_iff.mp (show (rUnit k l0 now st).bind (fun s' => rGo k l0 (a2 - (now + 1)).toNat (now + 1) s') = some s from hg)
          have HG' := Aside0.mk hg
          unfold rUnit at hu
          by_cases hok : rOk l0 st = true
          case neg => rw [if_neg hok] at hu; cases hu
          rw [if_pos hok] at hu
          obtain ⟨b, hp, hu⟩ := Option.bind_eq_some_iff.mp hu
          obtain ⟨k1, k2, k3, k4⟩ := rOk_of hok
          rw [hrl] at hp
          have HOK := Aside0.mk k4
          have HP := Aside0.mk hp
          have HU := Aside0.mk hu
          clear hg hu hp hok k4 HG
          obtain ⟨wp, rfl⟩ : ∃ wp : World, wp = wr := ⟨_, rfl⟩
          go_wp2_with fail
          go_loopw [14, 15] (fun v14 v15 wr => ∃ (best i : Int), v14 = .int .i64 best ∧ v15 = .int .i64 i ∧ 0 ≤ i ∧ i ≤ L ∧ -1 ≤ best ∧ best < L ∧ Aside0 (RW w wr (.slice A8 L c8) v11 v12 st.rows st.out st.run) ∧ Aside0 (rPick k l0 now st.rows (L - i.toNat) i best = some b)) (fun _ v _ => L - (intOf v).toNat)
          case atStart => exact ⟨-1, 0, rfl, rfl, by omega, by omega, by omega, by omega, HW, HP⟩
          case round =>
            clear HW HP
            obtain ⟨best, i, rfl, rfl, i0, i1, b0, b1, HW, HP⟩ := hrel
            by_cases hi : i < L
            · --[P
              obtain ⟨g, rfl⟩ := HF.out (by omega)
              obtain ⟨x0, x1, x2, x3, x4, x5, _⟩ := HW.out.at i i0 hi
              have hp := HP.out
              rw [show L - i.toNat = (L - (i + 1).toNat) + 1 by omega] at hp
              unfold rPick at hp
              generalize rd_T97 st.rows i = p at x0 x1 x2 x3 x4 x5 hp
              by_cases ho1 : p.f0.f1 ≤ now
              · have do1 : decide (p.f0.f1 ≤ now) = true := decide_eq_true ho1
                by_cases ho2 : p.f0.f3 = 0
                · have hop : rOpen now p = true := by unfold rOpen; rw [do1, decide_eq_true ho2]; rfl
                  rw [if_pos hop] at hp
                  have do2 : (p.f0.f3 == 0) = true := beq_iff_eq.2 ho2
                  by_cases hb : best < 0
                  · rw [if_pos hb] at hp
                    have HP1 := Aside0.mk hp
                    have db : decide (best < 0) = true := decide_eq_true hb
                    clear hp hop HP
                    go_wp2_with fail
                    go_quiet (fail)
                    go_wp2_with fail
                    exact ⟨⟨i, i + 1, rfl, rfl, by omega, by omega, by omega, hi, ⟨HW.out.drewN _⟩, HP1⟩, by simp [intOf]; omega⟩
                  · rw [if_neg hb] at hp
                    obtain ⟨bb, hbb, hp⟩ := Option.bind_eq_some_iff.mp hp
                    obtain ⟨z0, z1, z2, z3, z4, z5, _⟩ := HW.out.at best (by omega) b1
                    have HBB := Aside0.mk (show ontimeref43_before.f k l0 p.f0.f0 p.f0.f1 p.f0.f2 0 p.f0.f4 p.f1 (rd_T97 st.rows best).f0.f0 (rd_T97 st.rows best).f0.f1 (rd_T97 st.rows best).f0.f2 (rd_T97 st.rows best).f0.f3 (rd_T97 st.rows best).f0.f4 (rd_T97 st.rows best).f1 = some bb from by unfold rBef at hbb; rw [ho2] at hbb; exact hbb)
                    have HPP := Aside0.mk hp
                    have db : decide (best < 0) = false := decide_eq_false hb
                    generalize rd_T97 st.rows best = q at z0 z1 z2 z3 z4 z5 HBB
                    clear hp hbb hop HP
                    have HW1 := HW
                    go_wp2_with fail
                    go_region_held3 (fun w' => w'.cell? ⟨g, i.toNat * 6, none⟩ = some (.int .i64 p.f0.f0) ∧ w'.cell? ⟨g, i.toNat * 6 + 1, none⟩ = some (.int .i64 p.f0.f1) ∧ w'.cell? ⟨g, i.toNat * 6 + 2, none⟩ = some (.int .i64 p.f0.f2) ∧ w'.cell? ⟨g, i.toNat * 6 + 3, none⟩ = some (.int .i64 p.f0.f3) ∧ w'.cell? ⟨g, i.toNat * 6 + 4, none⟩ = some (.int .i64 p.f0.f4) ∧ w'.cell? ⟨g, i.toNat * 6 + 5, none⟩ = some (.int .i64 p.f1) ∧
                        w'.cell? ⟨g, best.toNat * 6, none⟩ = some (.int .i64 q.f0.f0) ∧ w'.cell? ⟨g, best.toNat * 6 + 1, none⟩ = some (.int .i64 q.f0.f1) ∧ w'.cell? ⟨g, best.toNat * 6 + 2, none⟩ = some (.int .i64 q.f0.f2) ∧ w'.cell? ⟨g, best.toNat * 6 + 3, none⟩ = some (.int .i64 q.f0.f3) ∧ w'.cell? ⟨g, best.toNat * 6 + 4, none⟩ = some (.int .i64 q.f0.f4) ∧ w'.cell? ⟨g, best.toNat * 6 + 5, none⟩ = some (.int .i64 q.f1) ∧ Below wr.heap.size wr w')
                      (first | exact ⟨x0, x1, x2, x3, x4, x5, z0, z1, z2, z3, z4, z5, below_drew (Below.refl _ _)⟩ | assumption | (obtain ⟨s0, s1, s2, s3, s4, s5, s6, s7, s8, s9, sa, sb, sc⟩ := ‹_ ∧ _ ∧ _ ∧ _ ∧ _ ∧ _ ∧ _ ∧ _ ∧ _ ∧ _ ∧ _ ∧ _ ∧ _›; exact ⟨pw_cell_below hb5 s0, pw_cell_below hb5 s1, pw_cell_below hb5 s2, pw_cell_below hb5 s3, pw_cell_below hb5 s4, pw_cell_below hb5 s5, pw_cell_below hb5 s6, pw_cell_below hb5 s7, pw_cell_below hb5 s8, pw_cell_below hb5 s9, pw_cell_below hb5 sa, pw_cell_below hb5 sb, below_step sc hb5⟩) | go_keep)
                      (first | (go_at_call 57; refine (ontimeref43_before.calls k A0 c0 l0 p.f0.f0 p.f0.f1 p.f0.f2 0 p.f0.f4 p.f1 q.f0.f0 q.f0.f1 q.f0.f2 q.f0.f3 q.f0.f4 q.f1 bb wr.drew (Kd.C_below (Kd.C_below HR.out HW.out.b) (below_drew (Below.refl _ _))) HC0.out HBB.out).mono ?_; rintro e' w5 ⟨rfl, hb5⟩))
                    have HW5 := Aside0.mk (HW1.out.drew.step hb5)
                    have hp := HPP.out
                    clear HPP hb5
                    cases bb with
                    | false =>
                      rw [if_neg (by simp)] at hp
                      have HP1 := Aside0.mk hp
                      clear hp
                      go_wp2_with fail
                      exact ⟨⟨best, i + 1, rfl, rfl, by omega, by omega, b0, b1, HW5, HP1⟩, by simp [intOf]; omega⟩
                    | true =>
                      rw [if_pos rfl] at hp
                      have HP1 := Aside0.mk hp
                      clear hp
                      go_wp2_with fail
                      exact ⟨⟨i, i + 1, rfl, rfl, by omega, by omega, by omega, hi, HW5, HP1⟩, by simp [intOf]; omega⟩
                · have hop : ¬ rOpen now p = true := by unfold rOpen; rw [do1, decide_eq_false ho2]; simp
                  rw [if_neg hop] at hp
                  have HP1 := Aside0.mk hp
                  have do2 : (p.f0.f3 == 0) = false := beq_eq_false_iff_ne.2 ho2
                  clear hp hop HP
                  go_wp2_with fail
                  go_quiet (fail)
                  go_wp2_with fail
                  exact ⟨⟨best, i + 1, rfl, rfl, by omega, by omega, b0, b1, ⟨HW.out.drewN _⟩, HP1⟩, by simp [intOf]; omega⟩
              · have do1 : decide (p.f0.f1 ≤ now) = false := decide_eq_false ho1
                have hop : ¬ rOpen now p = true := by unfold rOpen; rw [do1]; simp
                rw [if_neg hop] at hp
                have HP1 := Aside0.mk hp
                clear hp hop HP
                go_wp2_with fail
                go_quiet (fail)
                go_wp2_with fail
                exact ⟨⟨best, i + 1, rfl, rfl, by omega, by omega, b0, b1, ⟨HW.out.drewN _⟩, HP1⟩, by simp [intOf]; omega⟩
            · have hp := HP.out
              rw [show L - i.toNat = 0 by omega] at hp
              obtain rfl : best = b := Option.some.inj hp
              have hu := HU.out
              clear HP hp HU
              by_cases hb : best < 0
              · --[N
                rw [if_pos hb] at hu
                obtain rfl := Option.some.inj hu
                obtain rfl : best = -1 := by omega
                clear hu
                go_wp2_with ((with_reducible refine gate_builtin (b := .append) (xs := #[.tmp 93, .tmp 94]) rfl ?_); at_builtin; refine Kd.R_append (Kd.int .i64) (w0 := w) w.heap.size rfl (.tmp 93) (.tmp 94) 38 3 (.int .i64 0) 8 rfl Try.underlying38 info3 rfl (by decide) (by omega) v12 st.run (-1) [.int .i64 (-1)] (fun _ => True) (fun _ => False) rfl (by first | (go_simp; done) | (go_simp; rfl)) rfl (fun _ hk => hk.elim) (fun _ _ => trivial) HW.out.r12 HW.out.b HW.out.b.size (by omega) ?_; intro v95 w4 ho4 hb4 hg4 hat4; have HI4 := Aside0.mk (HW.out.more12 hg4 ho4 hb4); clear ho4 hb4 hg4 hat4)
                exact ⟨⟨now + 1, ⟨st.rows, st.out, st.run ++ [-1]⟩, rfl, by omega, by omega, hrl, HI4, HG'⟩, by simp [intOf]; omega⟩
              · rw [if_neg hb] at hu
                obtain rfl := Option.some.inj hu
                clear hu
                obtain ⟨g, rfl⟩ := HF.out (by omega)
                have hbl : best.toNat < st.rows.length := by omega
                have hbe : (best.toNat : Int) = best := Int.toNat_of_nonneg (by omega)
                obtain ⟨t0, t1, _, _, d0, d1⟩ := HOK.out _ (rd97_mem (rows := st.rows) (i := best) (by omega) (by omega))
                obtain ⟨x0, _⟩ := HW.out.at best (by omega) b1
                obtain ⟨task, htask⟩ : ∃ t, t = (rd_T97 st.rows best).f0.f0 := ⟨_, rfl⟩
                rw [← htask] at t0 t1 x0
                have HTK := Aside0.mk htask
                clear htask d0 d1 hbe
                go_wp2_with ((with_reducible refine gate_builtin (b := .append) (xs := #[.tmp 102, .tmp 104]) rfl ?_); at_builtin; refine Kd.R_append (Kd.int .i64) (w0 := w) w.heap.size rfl (.tmp 102) (.tmp 104) 38 3 (.int .i64 0) 8 rfl Try.underlying38 info3 rfl (by decide) (by omega) v12 st.run task [.int .i64 task] (fun _ => True) (fun _ => False) rfl (by first | (go_simp; done) | (go_simp; rfl)) rfl (fun _ hk => hk.elim) (fun _ _ => trivial) HW.out.r12 HW.out.b HW.out.b.size (by omega) ?_; intro v105 w4 ho4 hb4 hg4 hat4; have HI4 := Aside0.mk (HW.out.more12 hg4 ho4 hb4); clear ho4 hb4 hg4 hat4)
                clear HW x0
                obtain ⟨wq, rfl⟩ : ∃ wq : World, wq = w4 := ⟨_, rfl⟩
                go_loopw [17] (fun v17 wr => ∃ (q : Int), v17 = .int .i64 q ∧ 0 ≤ q ∧ q ≤ L ∧ Aside0 (RW w wr (.slice (some ⟨g, 0, none⟩) L c8) v11 v105 (rMix now task st.rows q.toNat) st.out (st.run ++ [task]))) (fun v _ => L - (intOf v).toNat)
                case atStart => exact ⟨0, rfl, by omega, by omega, HI4⟩
                case round =>
                  clear HI4
                  obtain ⟨q, rfl, q0, q1, HM⟩ := hrel
                  by_cases hq : q < L
                  · --[H
                    have hql : q.toNat < st.rows.length := by omega
                    have hqe : (q.toNat : Int) = q := Int.toNat_of_nonneg q0
                    have hat := rMix_at (now := now) (task := task) hql
                    rw [hqe] at hat
                    obtain ⟨x0, x1, x2, x3, x4, x5, xf⟩ := HM.out.at q q0 hq
                    have hmem := HOK.out _ (List.getElem_mem hql)
                    have m0 := hmem.2.2.1
                    have m1 := hmem.2.2.2.1
                    clear hmem
                    have hnx := rMix_next (now := now) (task := task) hql
                    have hsm := rMix_same (now := now) (task := task) hql
                    have hq1 : (q + 1).toNat = q.toNat + 1 := by omega
                    have f4 := xf 4
                    rw [hat] at x0 x1 x2 x3 x4 x5
                    have HAT := Aside0.mk hat
                    generalize st.rows[q.toNat] = p at x0 x1 x2 x3 x4 x5 m0 m1 hnx hsm HAT
                    have HNX := Aside0.mk hnx
                    have HSM := Aside0.mk hsm
                    have HQ1 := Aside0.mk hq1
                    clear hat hnx hsm xf hqe hql hq1
                    by_cases ho1 : p.f0.f1 ≤ now
                    · by_cases ho2 : p.f0.f3 = 0
                      · by_cases ho3 : p.f0.f0 < task
                        · have hr : rHind now task p = ⟨⟨p.f0.f0, p.f0.f1, p.f0.f2, p.f0.f3, p.f0.f4 + 1⟩, p.f1⟩ := by
                            unfold rHind rOpen
                            rw [decide_eq_true ho1, decide_eq_true ho2, if_pos ⟨rfl, ho3⟩]
                          have hnx := HNX.out
                          rw [hr] at hnx
                          have HNX1 := Aside0.mk hnx
                          clear hr hnx HSM HNX
                          go_wp2_with fail
                          refine ⟨⟨q + 1, rfl, by omega, by omega, ⟨?_⟩⟩, by simp [intOf]; omega⟩
                          rw [HQ1.out, ← HNX1.out]
                          exact HM.out.put q q0 hq 4 _ _ (by omega) (by rw [HAT.out]; rfl)
                        · have hr : rHind now task p = p := by unfold rHind; rw [if_neg (fun h => ho3 h.2)]
                          have hsm := HSM.out hr
                          have HSM1 := Aside0.mk hsm
                          clear hr hsm HSM HNX
                          go_wp2_with fail
                          exact ⟨⟨q + 1, rfl, by omega, by omega, ⟨by rw [HQ1.out, HSM1.out]; exact HM.out⟩⟩, by simp [intOf]; omega⟩
                      · have hr : rHind now task p = p := by unfold rHind rOpen; rw [if_neg (by rw [decide_eq_false ho2]; simp)]
                        have hsm := HSM.out hr
                        have HSM1 := Aside0.mk hsm
                        clear hr hsm HSM HNX
                        go_wp2_with fail
                        exact ⟨⟨q + 1, rfl, by omega, by omega, ⟨by rw [HQ1.out, HSM1.out]; exact HM.out⟩⟩, by simp [intOf]; omega⟩
                    · have hr : rHind now task p = p := by unfold rHind rOpen; rw [if_neg (by rw [decide_eq_false ho1]; simp)]
                      have hsm := HSM.out hr
                      have HSM1 := Aside0.mk hsm
                      clear hr hsm HSM HNX
                      go_wp2_with fail
                      exact ⟨⟨q + 1, rfl, by omega, by omega, ⟨by rw [HQ1.out, HSM1.out]; exact HM.out⟩⟩, by simp [intOf]; omega⟩
                  · have hqe : q.toNat = st.rows.length := by omega
                    have hM := HM.out
                    rw [hqe, rMix_all] at hM
                    have hml : (st.rows.map (rHind now task)).length = L := by rw [List.length_map]; exact hrl
                    have HDO := Aside0.mk (show rDo l0 now st best = rExec l0 now st best task (rInc (rBeg now (rd_T97 (st.rows.map (rHind now task)) best))) by unfold rDo; rw [HTK.out])
                    have htp : ∀ p, rHind now task p = p ∨ (rHind now task p).f1 = p.f1 := fun p => by unfold rHind; split <;> simp
                    have hd1 : 0 ≤ (rd_T97 (st.rows.map (rHind now task)) best).f1 ∧ (rd_T97 (st.rows.map (rHind now task)) best).f1 ≤ 1000000 := by
                      obtain ⟨y, hy, he⟩ := List.mem_map.1 (rd97_mem (rows := st.rows.map (rHind now task)) (i := best) (by omega) (by omega))
                      obtain ⟨_, _, _, _, d0, d1⟩ := HOK.out y hy
                      rw [← he]
                      rcases htp y with h | h
                      · rw [h]; exact ⟨d0, d1⟩
                      · rw [h]; exact ⟨d0, d1⟩
                    have hst : ∀ x : S97, (st.rows.map (rHind now task)).set best.toNat x = (st.rows.map (rHind now task)).set best.toNat x := fun _ => rfl
                    obtain ⟨R1, hR1⟩ : ∃ R1, R1 = st.rows.map (rHind now task) := ⟨_, rfl⟩
                    have HR1 := Aside0.mk hR1
                    rw [← hR1] at hM hml HDO hd1
                    obtain ⟨p1, hp1⟩ : ∃ p1, p1 = rd_T97 R1 best := ⟨_, rfl⟩
                    rw [← hp1] at HDO hd1
                    obtain ⟨x0, x1, x2, x3, x4, x5, xf⟩ := hM.at best (by omega) b1
                    rw [← hp1] at x0 x1 x2 x3 x4 x5
                    have f2 := xf 2
                    have HP1 := Aside0.mk hp1
                    have HM1 := Aside0.mk hM
                    have HML := Aside0.mk hml
                    obtain ⟨d0, d1⟩ := hd1
                    obtain ⟨adc, Ac, cc, hA, oc0, _⟩ := at_T93 HR.out task t0 t1
                    subst hA
                    have HC := Aside0.mk oc0
                    clear HM hM hml hR1 hp1 htp hst xf oc0 hqe
                    go_upto_if 156 with fail
                    go_cut [] (fun wx => Aside0 (RW w wx (.slice (some ⟨g, 0, none⟩) L c8) v11 v105 (R1.set best.toNat (rBeg now p1)) st.out (st.run ++ [task])))
                    case first =>
                      by_cases hd : p1.f1 = 0
                      · have hr : rBeg now p1 = ⟨⟨p1.f0.f0, p1.f0.f1, now, p1.f0.f3, p1.f0.f4⟩, p1.f1⟩ := by unfold rBeg; rw [if_pos hd]
                        have HR2 := Aside0.mk hr
                        clear hr
                        go_wp2_with fail
                        go_meet
                        rw [HR2.out]
                        exact ⟨HM1.out.put best (by omega) b1 2 _ _ (by omega) (by rw [← HP1.out]; rfl)⟩
                      · have hr : rBeg now p1 = p1 := by unfold rBeg; rw [if_neg hd]
                        have hs : R1.set best.toNat p1 = R1 := by
                          have hl : best.toNat < R1.length := by rw [HML.out]; omega
                          have := rd97_eq hl
                          rw [Int.toNat_of_nonneg (by omega), ← HP1.out] at this
                          rw [this, List.set_getElem_self]
                        have HR2 := Aside0.mk hr
                        have HS2 := Aside0.mk hs
                        clear hr hs
                        go_wp2_with fail
                        go_meet
                        rw [HR2.out, HS2.out]
                        exact HM1
                    case rest =>
                      clear x0 x1 x2 x3 x4 x5 f2 HM1
                      obtain ⟨HM2⟩ : Nonempty (Aside0 (RW w wc (.slice (some ⟨g, 0, none⟩) L c8) v11 v105 (R1.set best.toNat (rBeg now p1)) st.out (st.run ++ [task]))) := ⟨hcut⟩
                      have hbl2 : best.toNat < R1.length := by rw [HML.out]; omega
                      have hb2 : rd_T97 (R1.set best.toNat (rBeg now p1)) best = rBeg now p1 := rd97_set' (by omega) (by omega)
                      have hf1 : (rBeg now p1).f1 = p1.f1 := by unfold rBeg; split <;> rfl
                      obtain ⟨x0, x1, x2, x3, x4, x5, xf⟩ := HM2.out.at best (by omega) b1
                      rw [hb2] at x0 x1 x2 x3 x4 x5
                      rw [hf1] at x5
                      have f5 := xf 5
                      have HB2 := Aside0.mk hb2
                      have HF1 := Aside0.mk hf1
                      have HBL := Aside0.mk hbl2
                      clear xf hb2 hf1 hbl2 x0 x1 x2 x3 x4
                      go_upto_region 32 with fail
                      have hX : RW w (wc.setCell ⟨g, best.toNat * 6 + 5, none⟩ (.int .i64 (p1.f1 + 1))) (.slice (some ⟨g, 0, none⟩) L c8) v11 v105 (R1.set best.toNat (rInc (rBeg now p1))) st.out (st.run ++ [task]) := by
                        have := HM2.out.put best (by omega) b1 5 (.int .i64 (p1.f1 + 1)) (rInc (rBeg now p1)) (by omega) (by rw [HB2.out]; unfold rInc; rw [HF1.out]; rfl)
                        rwa [List.set_set] at this
                      have HX := Aside0.mk hX
                      clear hX x5 f5 HM2 HB2
                      generalize wc.setCell ⟨g, best.toNat * 6 + 5, none⟩ (.int .i64 (p1.f1 + 1)) = wz at HX ⊢
                      have hb3 : rd_T97 (R1.set best.toNat (rInc (rBeg now p1))) best = rInc (rBeg now p1) := rd97_set' (by omega) (by have := HBL.out; omega)
                      have HF2 := Aside0.mk (show (rInc (rBeg now p1)).f1 = p1.f1 + 1 by unfold rInc; rw [HF1.out])
                      obtain ⟨p2, hp2⟩ : ∃ p2, p2 = rInc (rBeg now p1) := ⟨_, rfl⟩
                      rw [← hp2] at hb3 HDO HX HF2
                      obtain ⟨x0, x1, x2, x3, x4, x5, xf⟩ := HX.out.at best (by omega) b1
                      rw [hb3] at x0 x1 x2 x3 x4 x5
                      rw [HF2.out] at x5
                      have f3 := xf 3
                      have c0 := (HX.out.b.cell (World.block_lt_of_cell? w _ HC.out)).trans HC.out
                      have HB3 := Aside0.mk hb3
                      clear hp2 hb3 xf
                      generalize hcost : (rd_T93 l0 task).f0 = cost at c0 HC
                      have HCOST := Aside0.mk hcost
                      clear hcost
                      by_cases hfin : p1.f1 + 1 = cost
                      · --[S
                        have hE : rExec l0 now st best task p2 = ⟨R1.set best.toNat (rStop now p2), st.out ++ [(rStop now p2).f0], st.run ++ [task]⟩ := by
                          unfold rExec
                          rw [if_pos (by rw [HF2.out, HCOST.out]; exact hfin), ← HR1.out]
                        have hg := HG'.out
                        rw [HDO.out, hE] at hg
                        have HG2 := Aside0.mk hg
                        clear hg hE HG' HDO
                        go_quiet (fail)
                        have HX2 := Aside0.mk (HX.out.drewN nq)
                        clear x0 x1 x2 x3 x4 x5 f3 c0 HX
                        generalize wz.drewN nq = wy at HX2 ⊢
                        obtain ⟨x0, x1, x2, x3, x4, x5, xf⟩ := HX2.out.at best (by omega) b1
                        have f3 := xf 3
                        clear x0 x1 x2 x4 x5 xf
                        go_upto_region 34 with fail
                        have hX3 : RW w (wy.setCell ⟨g, best.toNat * 6 + 3, none⟩ (.int .i64 (now + 1))) (.slice (some ⟨g, 0, none⟩) L c8) v11 v105 (R1.set best.toNat (rStop now p2)) st.out (st.run ++ [task]) := by
                          have := HX2.out.put best (by omega) b1 3 (.int .i64 (now + 1)) (rStop now p2) (by omega) (by rw [HB3.out]; rfl)
                          rwa [List.set_set] at this
                        have HX3 := Aside0.mk hX3
                        clear hX3 x3 f3 HX2
                        generalize wy.setCell ⟨g, best.toNat * 6 + 3, none⟩ (.int .i64 (now + 1)) = wv at HX3 ⊢
                        have hb4 : rd_T97 (R1.set best.toNat (rStop now p2)) best = rStop now p2 := rd97_set' (by omega) (by have := HBL.out; omega)
                        obtain ⟨x0, x1, x2, x3, x4, x5, _⟩ := HX3.out.at best (by omega) b1
                        rw [hb4] at x0 x1 x2 x3 x4
                        obtain ⟨j, hj⟩ : ∃ j, j = (rStop now p2).f0 := ⟨_, rfl⟩
                        rw [← hj] at x0 x1 x2 x3 x4 HG2
                        clear hb4 x5 hj
                        go_wp2_with ((with_reducible refine gate_builtin (b := .append) (xs := #[.tmp 191, .tmp 197]) rfl ?_); at_builtin; refine Kd.R_append k64 (w0 := w) w.heap.size rfl (.tmp 191) (.tmp 197) 61 64 (.agg #[(.int .i64 0), (.int .i64 0), (.int .i64 0), (.int .i64 0), (.int .i64 0)]) 40 rfl Try.underlying61 info64 rfl (by decide) (by omega) v11 st.out j [.int .i64 j.f0, .int .i64 j.f1, .int .i64 j.f2, .int .i64 j.f3, .int .i64 j.f4] (fun _ => True) (fun _ => False) rfl (by first | (go_simp; done) | (go_simp; rfl)) (k64_mkM _ _ _ j) (fun _ hk => hk.elim) (fun _ _ => trivial) HX3.out.r11 HX3.out.b HX3.out.b.size (by omega) ?_; intro v198 w6 ho6 hb6 hg6 hat6; have HI6 := Aside0.mk (HX3.out.more11 hg6 ho6 hb6); clear ho6 hb6 hg6 hat6)
                        exact ⟨⟨now + 1, ⟨R1.set best.toNat (rStop now p2), st.out ++ [j], st.run ++ [task]⟩, rfl, by omega, by omega, by rw [List.length_set]; exact HML.out, HI6, HG2⟩, by simp [intOf]; omega⟩
                      · --[U
                        have hE : rExec l0 now st best task p2 = ⟨R1.set best.toNat p2, st.out, st.run ++ [task]⟩ := by
                          unfold rExec
                          rw [if_neg (by rw [HF2.out, HCOST.out]; exact hfin), ← HR1.out]
                        have hg := HG'.out
                        rw [HDO.out, hE] at hg
                        have HG2 := Aside0.mk hg
                        clear hg hE HG' HDO
                        go_quiet (fail)
                        go_wp2_with fail
                        exact ⟨⟨now + 1, ⟨R1.set best.toNat p2, st.out, st.run ++ [task]⟩, rfl, by omega, by omega, by rw [List.length_set]; exact HML.out, ⟨HX.out.drewN _⟩, HG2⟩, by simp [intOf]; omega⟩
        · --[E
          have hg := HG.out
          rw [show (a2 - now).toNat = 0 by omega] at hg
          obtain rfl := Option.some.inj hg
          clear hg HG
          go_wp2_with fail
          go_ret2
          exact ⟨_, _, rfl, HW.out.r11, HW.out.r12, HW.out.b⟩
theorem ontimeref43_Simulate.calls (k : Nat) (A0 : Option Addr) (c0 : Nat) (l0 : List (S93)) (A1 : Option Addr) (c1 : Nat) (l1 : List (List Int)) (a2 : Int) (r1 : List S64) (r2 : List Int) (w : World) (hr0 : Kd.C k93 w A0 l0.length l0) (hc0 : l0.length ≤ c0)
    (hr1 : Kd.C (Kd.slice 3 (Kd.int .i64)) w A1 l1.length l1) (hc1 : l1.length ≤ c1) (h : ontimeref43_Simulate.f k l0 l1 a2 = some (r1, r2)) :
    Calls Try.prog 34 #[.slice A0 l0.length c0, .slice A1 l1.length c1, .int .i64 a2] w fun e w' => ∃ v0_ v1_ : Value, e = .returned (.tuple #[v0_, v1_]) ∧ Kd.R k64 64 w' w.heap.size (fun _ => True) v0_ r1 ∧ Kd.R (Kd.int .i64) 3 w' w.heap.size (fun _ => True) v1_ r2 ∧ Below w.heap.size w w' := by
  unfold ontimeref43_Simulate.f at h
  by_cases hok : rFit l0 l1 a2 = true
  · rw [if_pos hok] at h
    obtain ⟨s, h1, h2⟩ := Option.bind_eq_some_iff.mp h
    obtain ⟨rfl, rfl⟩ := Prod.mk.inj (Option.some.inj h2)
    exact ref_run k A0 c0 l0 A1 c1 l1 a2 s w hr0 hc0 hr1 hc1 hok h1
  · rw [if_neg hok] at h
    cases h

end Go.Proofs.Ytcmifojplgmgkaa.P
