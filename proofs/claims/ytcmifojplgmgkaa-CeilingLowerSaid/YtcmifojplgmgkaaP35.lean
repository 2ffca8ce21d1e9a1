-- written by wip/drive.py (a driver of this session's own over the kit's print.py)
import Derived.Test.YtcmifojplgmgkaaP0
import Derived.Test.YtcmifojplgmgkaaP3
import Derived.Test.YtcmifojplgmgkaaP16
import Derived.Test.YtcmifojplgmgkaaP28
import Derived.Test.YtcmifojplgmgkaaP29
import Derived.Test.YtcmifojplgmgkaaP30
namespace Go.Proofs.Ytcmifojplgmgkaa.P
open Go.RowKit Go.Proofs.YtcmifojplgmgkaaW.PrintWords Go.Proofs.YtcmifojplgmgkaaW.PrintLast Go.Proofs.YtcmifojplgmgkaaW.PrintMore
attribute [local go_sem] max2_int min2_int max_two min_two max_three min_three max_four min_four   -- for this text's walks alone
set_option linter.unusedVariables false
set_option linter.unusedSimpArgs false

-- PLUG
/-! ### ontimelaw43_CeilingLower (function 14): by hand: it copies rows of elements that lead to rows; one way -/
/-- Elements whose cells lead to what an older world held. -/
def kOldT (w0 : World) : Kd S49 where
  sz := 4
  E := []
  K := fun _ x cs => k49.K w0 x cs
  M := fun _ _ _ x cs => k49.K w0 x cs
  K_len := fun h => k49.K_len h
  K_one := fun h => k49.K_one h
  K_below := fun _ h => h
  K_of_M := fun h => h
  M_mono := fun _ h => h
  M_bound := fun h => h
  M_move := fun _ h => h
  M_lower := fun _ h => h
theorem kOldT_C {w0 W : World} {A : Option Addr} {n : Nat} {xs : List S49} (h : (kOldT w0).C W A n xs) (hb : Below w0.heap.size w0 W) : k49.C W A n xs :=
  ReadsRow.imp_ (R := k49.K w0) (size := 4) h (Below.refl _ _) (fun _ _ hp => k49.K_below hb hp)
theorem kOldT_rows {w0 W : World} {A : Option Addr} {n : Nat} {xs : List S49} (h : k49.C w0 A n xs) (hb : Below w0.heap.size w0 W) : ReadsRow (k49.K w0) 4 W A n xs := ReadsRow.imp_ h hb (fun _ _ hp => hp)
def kOldL (w0 : World) : Kd (List Int) where
  sz := 1
  E := []
  K := fun _ x cs => (Kd.slice 3 (Kd.int .i64)).K w0 x cs
  M := fun _ _ _ x cs => (Kd.slice 3 (Kd.int .i64)).K w0 x cs
  K_len := fun h => (Kd.slice 3 (Kd.int .i64)).K_len h
  K_one := fun h => (Kd.slice 3 (Kd.int .i64)).K_one h
  K_below := fun _ h => h
  K_of_M := fun h => h
  M_mono := fun _ h => h
  M_bound := fun h => h
  M_move := fun _ h => h
  M_lower := fun _ h => h
theorem kOldL_C {w0 W : World} {A : Option Addr} {n : Nat} {xs : List (List Int)} (h : (kOldL w0).C W A n xs) (hb : Below w0.heap.size w0 W) : (Kd.slice 3 (Kd.int .i64)).C W A n xs :=
  ReadsRow.imp_ (R := (Kd.slice 3 (Kd.int .i64)).K w0) (size := 1) h (Below.refl _ _) (fun _ _ hp => (Kd.slice 3 (Kd.int .i64)).K_below hb hp)
theorem kOldL_rows {w0 W : World} {A : Option Addr} {n : Nat} {xs : List (List Int)} (h : (Kd.slice 3 (Kd.int .i64)).C w0 A n xs) (hb : Below w0.heap.size w0 W) : ReadsRow ((Kd.slice 3 (Kd.int .i64)).K w0) 1 W A n xs := ReadsRow.imp_ h hb (fun _ _ hp => hp)
/-- An empty row, made. -/
theorem low_lit (w0 W : World) {base : Nat} (hbase : base ≤ W.heap.size) : (kOldT w0).R 49 (W.alloc (.cells #[] 49)) base (fun _ => True) (.slice (some ⟨W.heap.size, 0, none⟩) 0 0) [] := by
  refine ⟨fun _ _ => trivial, [], ?_, Reps.none _ _⟩
  exact World.ownsRow_lit (base := base) (e := 49) (size := 4) W #[] 0 hbase (by decide) (by simp)
/-- A row of one element, read. -/
theorem low_row {α : Type} {R : α → List Value → Prop} {size : Nat} {W : World} {b : Nat} {t : TypeId} {cs : List Value} {x : α} (h : W.heap[b]? = some (.cells cs.toArray t (0, 0))) (hl : cs.length = size) (hx : R x cs) : ReadsRow R size W (some ⟨b, 0, none⟩) 1 [x] := by
  refine ⟨rfl, by decide, fun _ => ⟨_, rfl, fun j p hp => ?_⟩⟩
  cases j with
  | succ j => simp at hp
  | zero =>
    obtain rfl : x = p := by simpa using hp
    refine ⟨cs, hl, hx, fun i u hu => ?_⟩
    rw [Nat.zero_mul, Nat.zero_add, add_plain, blk_cell h i]
    simpa using hu
/-- What is known behind the second row, whatever the order. -/
structure LowF (w : World) (gb : Nat) (x0 x1 x2 : Int) (l0 : List S49) (s : Value × Value × Value) (W : World) : Prop where
  b : Below w.heap.size w W
  x : W.heap[gb]? = some (.cells #[.int .i64 x0, .int .i64 x1, .int .i64 x2, .slice none 0 0] 49 (0, 0))
  one : ∃ b, s.2.2 = .slice (some ⟨b, 0, none⟩) 1 1 ∧ W.heap[b]? = some (.cells #[.int .i64 x0, .int .i64 x1, .int .i64 x2, .slice none 0 0] 49 (0, 0))
  own : (kOldT w).R 49 W w.heap.size (fun _ => True) s.2.1 l0
def lowJ (n : Int) (j : S34) : Bool := decide (j.f0 < n)
theorem low_take {l : List S34} {i : Int} (n : Int) (h0 : 0 ≤ i) (h1 : i < l.length) : (l.take (i + 1).toNat).filter (lowJ n) = (l.take i.toNat).filter (lowJ n) ++ (if (rd_T34 l i).f0 < n then [rd_T34 l i] else []) := by
  have hl : i.toNat < l.length := by omega
  have e : rd_T34 l i = l[i.toNat] := by
    unfold rd_T34
    rw [List.getD_eq_getElem?_getD, List.getElem?_eq_getElem hl]
    rfl
  rw [show (i + 1).toNat = i.toNat + 1 by omega, List.take_succ_eq_append_getElem hl, List.filter_append, e]
  by_cases c : l[i.toNat].f0 < n
  · rw [if_pos c, List.filter_cons_of_pos (show lowJ n l[i.toNat] = true from decide_eq_true c), List.filter_nil]
  · rw [if_neg c, List.filter_cons_of_neg (show ¬ lowJ n l[i.toNat] = true from fun h => c (of_decide_eq_true h)), List.filter_nil]
def ontimelaw43_CeilingLower.f (k : Nat) (l0 : List S49) (l1 : List (List Int)) (a2 : Int) (x0 x1 x2 : Int) (l3 : List S68) (l4 : List Int) : Option Bool :=
  (ontimelaw43_awake.f k).bind fun t => if t = true then ((ontimelaw43_fits.f k l0 l1 a2).bind fun g => if g = true then (if l4.length ≤ 6 then (if l0.length ≤ 1000 ∧ l1.length ≤ 1000 then
    ((ceiling_Valid.f k (l0 ++ [⟨x0, x1, x2, []⟩])).bind fun v => if v = true then ((ontimelaw43_plain.f k (l0 ++ [⟨x0, x1, x2, []⟩])).bind fun M => (ontimeref43_Spaced.f k M (l1 ++ [l4])).bind fun s => if s = true then
      ((ceiling_Simulate.f k l0 l1 a2).bind fun r1 => (ceiling_Simulate.f k (l0 ++ [⟨x0, x1, x2, []⟩]) (l1 ++ [l4]) a2).bind fun r2 => if r1.2 = 0 ∧ r2.2 = 0 ∧ r2.1.length ≤ 1000000 then
        ((ceiling_Job.f k r1.1 (r2.1.filter (lowJ l0.length))).bind fun b => if b = true then some true else none) else none) else some true) else some true) else none) else some true) else some true) else none
section
variable (k : Nat) (A0 : Option Addr) (c0 : Nat) (l0 : List (S49)) (A1 : Option Addr) (c1 : Nat) (l1 : List (List Int)) (a2 x0 x1 x2 : Int) (A3 : Option Addr) (c3 : Nat) (l3 : List S68) (A4 : Option Addr) (c4 : Nat) (l4 : List Int) (w : World) (hr0 : Kd.C k49 w A0 l0.length l0) (hc0 : l0.length ≤ c0)
  (hr1 : Kd.C (Kd.slice 3 (Kd.int .i64)) w A1 l1.length l1) (hc1 : l1.length ≤ c1)
include hr0 hc0 hr1 hc1
set_option maxHeartbeats 8000000 in
set_option maxRecDepth 100000 in
theorem low_no (h1 : ontimelaw43_awake.f k = some true) (h2 : ontimelaw43_fits.f k l0 l1 a2 = some false) :
    Calls Try.prog 14 #[.slice A0 l0.length c0, .slice A1 l1.length c1, .int .i64 a2, .agg #[.int .i64 x0, .int .i64 x1, .int .i64 x2, .slice A3 l3.length c3], .slice A4 l4.length c4] w fun e w' => e = .returned (.bool true) ∧ Below w.heap.size w w' := by
  have HR := Aside0.mk hr0
  have HS := Aside0.mk hr1
  have HC0 := Aside0.mk hc0
  have HC1 := Aside0.mk hc1
  have A1 := Aside0.mk h1
  have A2 := Aside0.mk h2
  clear hr0 hr1 hc0 hc1 h1 h2
  go_enter Try.func14, Try.ntmps14
  go_wp2_with (first | ((with_reducible refine gate_dst (N := 8) rfl ?_); refine box_event ?hg (N := 8) ?hd (cs := #[.int .i64 x0, .int .i64 x1, .int .i64 x2, .slice A3 l3.length c3]) (t := 49) ?hr ?_; (case hd => rfl); (case hg => rfl); (case hr => first | (go_simp; done) | (go_simp; rfl)); intro gb hg w0 hbox hb; have HB0 := Aside0.mk hb; clear hbox hb hg) | fail)
  refine (ontimelaw43_awake.calls k true w0 A1.out).mono ?_
  rintro e w1 ⟨rfl, hb1⟩
  have HB1 := Aside0.mk (below_step HB0.out hb1)
  clear hb1
  go_wp2_with fail
  refine (ontimelaw43_fits.calls k _ _ l0 _ _ l1 a2 false w1 (Kd.C_below HR.out HB1.out) HC0.out (Kd.C_below HS.out HB1.out) HC1.out A2.out).mono ?_
  rintro e w2 ⟨rfl, hb2⟩
  have HB2 := Aside0.mk (below_step HB1.out hb2)
  clear hb2
  go_wp2_with fail
  refine (ontimelaw43_awake.calls k true w2 A1.out).mono ?_
  rintro e w3 ⟨rfl, hb3⟩
  have HB3 := Aside0.mk (below_step HB2.out hb3)
  clear hb3
  go_wp2
  go_ret
  exact ⟨rfl, HB3.out⟩
set_option maxHeartbeats 8000000 in
set_option maxRecDepth 100000 in
theorem low_long (h1 : ontimelaw43_awake.f k = some true) (h2 : ontimelaw43_fits.f k l0 l1 a2 = some true) (h3 : ¬ l4.length ≤ 6) :
    Calls Try.prog 14 #[.slice A0 l0.length c0, .slice A1 l1.length c1, .int .i64 a2, .agg #[.int .i64 x0, .int .i64 x1, .int .i64 x2, .slice A3 l3.length c3], .slice A4 l4.length c4] w fun e w' => e = .returned (.bool true) ∧ Below w.heap.size w w' := by
  have HR := Aside0.mk hr0
  have HS := Aside0.mk hr1
  have HC0 := Aside0.mk hc0
  have HC1 := Aside0.mk hc1
  have A1 := Aside0.mk h1
  have A2 := Aside0.mk h2
  have hg : decide ((6 : Int) < (l4.length : Int)) = true := decide_eq_true (by omega)
  clear hr0 hr1 hc0 hc1 h1 h2
  go_enter Try.func14, Try.ntmps14
  go_wp2_with (first | ((with_reducible refine gate_dst (N := 8) rfl ?_); refine box_event ?hg (N := 8) ?hd (cs := #[.int .i64 x0, .int .i64 x1, .int .i64 x2, .slice A3 l3.length c3]) (t := 49) ?hr ?_; (case hd => rfl); (case hg => rfl); (case hr => first | (go_simp; done) | (go_simp; rfl)); intro gb hg w0 hbox hb; have HB0 := Aside0.mk hb; clear hbox hb hg) | fail)
  refine (ontimelaw43_awake.calls k true w0 A1.out).mono ?_
  rintro e w1 ⟨rfl, hb1⟩
  have HB1 := Aside0.mk (below_step HB0.out hb1)
  clear hb1
  go_wp2_with fail
  refine (ontimelaw43_fits.calls k _ _ l0 _ _ l1 a2 true w1 (Kd.C_below HR.out HB1.out) HC0.out (Kd.C_below HS.out HB1.out) HC1.out A2.out).mono ?_
  rintro e w2 ⟨rfl, hb2⟩
  have HB2 := Aside0.mk (below_step HB1.out hb2)
  clear hb2
  go_wp2_with fail
  refine (ontimelaw43_awake.calls k true w2 A1.out).mono ?_
  rintro e w3 ⟨rfl, hb3⟩
  have HB3 := Aside0.mk (below_step HB2.out hb3)
  clear hb3
  go_wp2
  go_ret
  exact ⟨rfl, HB3.out⟩
set_option maxHeartbeats 8000000 in
set_option maxRecDepth 100000 in
theorem low_main (v s : Bool) (hr4 : Kd.C (Kd.int .i64) w A4 l4.length l4) (hc4 : l4.length ≤ c4) (h1 : ontimelaw43_awake.f k = some true) (h2 : ontimelaw43_fits.f k l0 l1 a2 = some true) (h3 : l4.length ≤ 6) (hl0 : l0.length ≤ 1000) (hl1 : l1.length ≤ 1000)
    (h4 : ceiling_Valid.f k (l0 ++ [⟨x0, x1, x2, []⟩]) = some v)
    (h5 : v = true → ∃ M, ontimelaw43_plain.f k (l0 ++ [⟨x0, x1, x2, []⟩]) = some M ∧ ontimeref43_Spaced.f k M (l1 ++ [l4]) = some s)
    (h6 : v = true → s = true → ∃ r1 r2, ceiling_Simulate.f k l0 l1 a2 = some (r1, 0) ∧ ceiling_Simulate.f k (l0 ++ [⟨x0, x1, x2, []⟩]) (l1 ++ [l4]) a2 = some (r2, 0) ∧ r2.length ≤ 1000000 ∧ ceiling_Job.f k r1 (r2.filter (lowJ l0.length)) = some true) :
    Calls Try.prog 14 #[.slice A0 l0.length c0, .slice A1 l1.length c1, .int .i64 a2, .agg #[.int .i64 x0, .int .i64 x1, .int .i64 x2, .slice A3 l3.length c3], .slice A4 l4.length c4] w fun e w' => e = .returned (.bool true) ∧ Below w.heap.size w w' := by
  have hu49 := Try.underlying49
  have hu22 := Try.underlying22
  have hu34 := Try.underlying34
  have HR := Aside0.mk hr0
  have HS := Aside0.mk hr1
  have HC0 := Aside0.mk hc0
  have HC1 := Aside0.mk hc1
  have H4R := Aside0.mk hr4
  have HC4 := Aside0.mk hc4
  have Q1 := Aside0.mk h1
  have Q2 := Aside0.mk h2
  have Q4 := Aside0.mk h4
  have Q5 := Aside0.mk h5
  have Q6 := Aside0.mk h6
  have hg : decide ((6 : Int) < (l4.length : Int)) = false := decide_eq_false (by omega)
  clear hr0 hr1 hc0 hc1 h1 h2 h4 h5 h6 hr4 hc4
  go_enter Try.func14, Try.ntmps14
  go_wp2_with (first | ((with_reducible refine gate_dst (N := 8) rfl ?_); refine box_event ?hg (N := 8) ?hd (cs := #[.int .i64 x0, .int .i64 x1, .int .i64 x2, .slice A3 l3.length c3]) (t := 49) ?hr ?_; (case hd => rfl); (case hg => rfl); (case hr => first | (go_simp; done) | (go_simp; rfl)); intro gb hg w0 hbox hb; have HB0 := Aside0.mk hb; have HX0 := Aside0.mk hbox; have HG0 : Aside0 (w.heap.size ≤ gb) := ⟨by rw [hg]; exact Nat.le_refl _⟩; clear hbox hb hg) | fail)
  refine (ontimelaw43_awake.calls k true w0 Q1.out).mono ?_
  rintro e w1 ⟨rfl, hb1⟩
  have HB1 := Aside0.mk (below_step HB0.out hb1)
  have HX1 := Aside0.mk (blk_below HX0.out hb1)
  clear hb1 HX0 HB0
  go_wp2_with fail
  refine (ontimelaw43_fits.calls k _ _ l0 _ _ l1 a2 true w1 (Kd.C_below HR.out HB1.out) HC0.out (Kd.C_below HS.out HB1.out) HC1.out Q2.out).mono ?_
  rintro e w2 ⟨rfl, hb2⟩
  have HB2 := Aside0.mk (below_step HB1.out hb2)
  have HX2 := Aside0.mk (blk_below HX1.out hb2)
  clear hb2 HX1 HB1
  have z3 : w2.cell? ⟨gb, 3, none⟩ = some (.slice A3 l3.length c3) := (blk_cell HX2.out 3).trans rfl
  have f3 : w2.frozen? ⟨gb, 3, none⟩ = false := by
    simp [World.frozen?, HX2.out]
  go_wp2_with fail
  have HX3 := Aside0.mk (blk_set HX2.out 3 (.slice none 0 0))
  have HB3 := Aside0.mk (below_set (j := 3) (v := .slice none 0 0) HB2.out HG0.out)
  clear z3 f3 HX2 HB2
  generalize hW3 : World.setCell w2 ⟨gb, 3, none⟩ (.slice none 0 0) = w3 at HX3 HB3 ⊢
  clear hW3
  have HXS : Aside0 (w3.drew.heap[gb]? = some (.cells #[.int .i64 x0, .int .i64 x1, .int .i64 x2, .slice none 0 0] 49 (0, 0))) := ⟨blk_drew HX3.out⟩
  have HBS : Aside0 (Below w.heap.size w w3.drew) := ⟨below_drew HB3.out⟩
  clear HX3 HB3
--[R4
  refine start_ (n := 7) (S := fun w' => w'.cell? ⟨gb, 0, none⟩ = some (.int .i64 x0) ∧ w'.cell? ⟨gb, 1, none⟩ = some (.int .i64 x1) ∧ w'.cell? ⟨gb, 2, none⟩ = some (.int .i64 x2) ∧ w'.cell? ⟨gb, 3, none⟩ = some (.slice none 0 0)) (ds := [5]) #[false, false, false, false, false, false, false] (by kernel_rfl) rfl rfl ⟨(blk_cell HXS.out 0).trans rfl, (blk_cell HXS.out 1).trans rfl, (blk_cell HXS.out 2).trans rfl, (blk_cell HXS.out 3).trans rfl⟩ (fun hHeld => ?_)
  generalize w3.drew = WS at *
  refine pure_ (i := 1) (N := some 37) (v := ?_) (a' := ?_) #[false, true, false, false, false, false, false] rfl rfl (by kernel_rfl) (fun _ _ _ h => h) (Or.inl ⟨by rfl, ?_⟩) ?_ ?_
  rotate_left
  · intro w'
    go_simp
    with_reducible rfl
  rotate_left
  · simp only [Act.put, List.setIfInBounds_toArray, List.set_cons_zero, List.set_cons_succ, i64_w, i32_w]
    rfl
  refine take_ (i := 3) (N := some 39) (v := ?_) (a' := ?_) #[false, true, false, true, false, false, false] rfl rfl (by kernel_rfl) (fun _ _ _ h => h) (Or.inl ⟨by rfl, ?_⟩) hHeld ?_ ?_
  rotate_left
  · rintro w' ⟨s0, s1, s2, s3⟩
    go_simp
    with_reducible rfl
  rotate_left
  · simp only [Act.put, List.setIfInBounds_toArray, List.set_cons_zero, List.set_cons_succ, i64_w, i32_w]
    rfl
  refine join_ (σ := Value × Value × Value) 2 #[true, true, true, true, true, false, false] (fun s => [(36, s.1), (38, s.2.1), (40, s.2.2)]) (fun s W => LowF w gb x0 x1 x2 l0 s W) ?_ ?_
  rotate_left
  · intro hCont
    refine two_ (i := 0) (j := 4) (Ni := some 36) (Nj := some 40) #[true, true, false, true, false, false, false] #[false, true, false, true, true, false, false] rfl rfl rfl rfl (by kernel_rfl) (by decide) (by decide) (fun K hK => ?_) (fun K hK => ?_)
    · skip
      refine value_ (w1 := ?_) (v := ?_) (by rfl) rfl ?_ ?_
      rotate_left 2
      · go_simp
        constructor
        · rfl
        · rfl
      have HX0 := Aside0.mk (blk_alloc HXS.out (.cells #[] 49))
      have HB0 := Aside0.mk (below_alloc HBS.out (.cells #[] 49))
      have HE0 := Aside0.mk (low_lit w WS (base := w.heap.size) (below_size HBS.out))
      have HG0 := Aside0.mk (blk_lt HXS.out)
      have HL0 := Aside0.mk (blk_lt (blk_new WS (.cells #[] 49)))
      generalize hWn : World.alloc WS (.cells #[] 49) = W0 at HX0 HB0 HE0 HL0 ⊢
      clear hWn
      generalize hbn : WS.heap.size = p0 at HE0 HG0 HL0 ⊢
      clear hbn
      refine hK.out _ _ ⟨(blk_cell HX0.out 0).trans rfl, (blk_cell HX0.out 1).trans rfl, (blk_cell HX0.out 2).trans rfl, (blk_cell HX0.out 3).trans rfl⟩ (fun hHeld => ?_)
      clear hK K
      refine norm_ (a' := ?_) ?_ ?_
      rotate_left
      · show Act.put _ (some 36) _ = _
        simp only [Act.put, List.setIfInBounds_toArray, List.set_cons_zero, List.set_cons_succ, i64_w, i32_w]
        rfl
      refine two_ (i := 2) (j := 4) (Ni := some 38) (Nj := some 40) #[true, true, true, true, false, false, false] #[true, true, false, true, true, false, false] rfl rfl rfl rfl (by kernel_rfl) (by decide) (by decide) (fun K hK => ?_) (fun K hK => ?_)
      · skip
        refine Kd.R_append_rows_step (kOldT w) (w0 := w) w.heap.size (by rfl) (.tmp 36) (.tmp 37) 22 49 (.agg #[(.int .i64 0), (.int .i64 0), (.int .i64 0), (.slice none 0 0)]) 48 rfl Try.underlying22 info49 rfl (show 0 < 4 by decide) (by omega) _ ([] : List S49) l0 A0 l0.length c0 (fun _ => True) (fun _ => False) rfl rfl HE0.out (kOldT_rows HR.out HB0.out) (fun _ _ h => h) (fun _ h => h.elim) (fun _ _ => trivial) HB0.out (below_size HB0.out) (by simp only [List.length_nil]; omega) ?_
        intro v02 W02 ho hb hg hat
        clear hat
        rw [List.nil_append] at ho
        have HA02 := Aside0.mk ho
        have HB02 := Aside0.mk hb
        have HX02 := Aside0.mk (blk_grown HX0.out hg (fun e => absurd (Option.some.inj (show some gb = some p0 from e)) (Nat.ne_of_lt HG0.out)))
        clear ho hb hg
        refine hK.out _ _ ⟨(blk_cell HX02.out 0).trans rfl, (blk_cell HX02.out 1).trans rfl, (blk_cell HX02.out 2).trans rfl, (blk_cell HX02.out 3).trans rfl⟩ (fun hHeld => ?_)
        clear hK K
        refine norm_ (a' := ?_) ?_ ?_
        rotate_left
        · show Act.put _ (some 38) _ = _
          simp only [Act.put, List.setIfInBounds_toArray, List.set_cons_zero, List.set_cons_succ, i64_w, i32_w]
          rfl
        refine one_ (i := 4) (N := some 40) #[true, true, true, true, true, false, false] rfl rfl (by kernel_rfl) (by decide) (fun K hK => ?_)
        refine value_ (w1 := ?_) (v := ?_) (by rfl) rfl ?_ ?_
        rotate_left 2
        · go_simp
          constructor
          · rfl
          · rfl
        have HX024 := Aside0.mk (blk_alloc HX02.out (.cells #[.int .i64 x0, .int .i64 x1, .int .i64 x2, .slice none 0 0] 49))
        have HB024 := Aside0.mk (below_alloc HB02.out (.cells #[.int .i64 x0, .int .i64 x1, .int .i64 x2, .slice none 0 0] 49))
        have HO024 := Aside0.mk (blk_new W02 (.cells #[.int .i64 x0, .int .i64 x1, .int .i64 x2, .slice none 0 0] 49))
        have HA024 := Aside0.mk (Kd.R_alloc HA02.out (.cells #[.int .i64 x0, .int .i64 x1, .int .i64 x2, .slice none 0 0] 49))
        generalize hWn : World.alloc W02 (.cells #[.int .i64 x0, .int .i64 x1, .int .i64 x2, .slice none 0 0] 49) = W024 at HX024 HB024 HO024 HA024 ⊢
        clear hWn
        generalize hbn : W02.heap.size = q024 at HO024 ⊢
        clear hbn
        refine hK.out _ _ ⟨(blk_cell HX024.out 0).trans rfl, (blk_cell HX024.out 1).trans rfl, (blk_cell HX024.out 2).trans rfl, (blk_cell HX024.out 3).trans rfl⟩ (fun hHeld => ?_)
        clear hK K
        refine norm_ (a' := ?_) ?_ ?_
        rotate_left
        · show Act.put _ (some 40) _ = _
          simp only [Act.put, List.setIfInBounds_toArray, List.set_cons_zero, List.set_cons_succ, i64_w, i32_w]
          rfl
        exact norm_ (by first | (simp only [putAll, Act.put, List.setIfInBounds_toArray, List.set_cons_zero, List.set_cons_succ]; done) | (simp only [putAll, Act.put, List.setIfInBounds_toArray, List.set_cons_zero, List.set_cons_succ]; rfl)) (hCont (_, _, _) _ ⟨HB024.out, HX024.out, ⟨_, rfl, HO024.out⟩, HA024.out⟩)
      · skip
        refine value_ (w1 := ?_) (v := ?_) (by rfl) rfl ?_ ?_
        rotate_left 2
        · go_simp
          constructor
          · rfl
          · rfl
        have HX04 := Aside0.mk (blk_alloc HX0.out (.cells #[.int .i64 x0, .int .i64 x1, .int .i64 x2, .slice none 0 0] 49))
        have HB04 := Aside0.mk (below_alloc HB0.out (.cells #[.int .i64 x0, .int .i64 x1, .int .i64 x2, .slice none 0 0] 49))
        have HO04 := Aside0.mk (blk_new W0 (.cells #[.int .i64 x0, .int .i64 x1, .int .i64 x2, .slice none 0 0] 49))
        have HE04 := Aside0.mk (Kd.R_alloc HE0.out (.cells #[.int .i64 x0, .int .i64 x1, .int .i64 x2, .slice none 0 0] 49))
        have HD04 := HL0
        generalize hWn : World.alloc W0 (.cells #[.int .i64 x0, .int .i64 x1, .int .i64 x2, .slice none 0 0] 49) = W04 at HX04 HB04 HO04 HE04 ⊢
        clear hWn
        generalize hbn : W0.heap.size = q04 at HO04 HD04 ⊢
        clear hbn
        refine hK.out _ _ ⟨(blk_cell HX04.out 0).trans rfl, (blk_cell HX04.out 1).trans rfl, (blk_cell HX04.out 2).trans rfl, (blk_cell HX04.out 3).trans rfl⟩ (fun hHeld => ?_)
        clear hK K
        refine norm_ (a' := ?_) ?_ ?_
        rotate_left
        · show Act.put _ (some 40) _ = _
          simp only [Act.put, List.setIfInBounds_toArray, List.set_cons_zero, List.set_cons_succ, i64_w, i32_w]
          rfl
        refine one_ (i := 2) (N := some 38) #[true, true, true, true, true, false, false] rfl rfl (by kernel_rfl) (by decide) (fun K hK => ?_)
        refine Kd.R_append_rows_step (kOldT w) (w0 := w) w.heap.size (by rfl) (.tmp 36) (.tmp 37) 22 49 (.agg #[(.int .i64 0), (.int .i64 0), (.int .i64 0), (.slice none 0 0)]) 48 rfl Try.underlying22 info49 rfl (show 0 < 4 by decide) (by omega) _ ([] : List S49) l0 A0 l0.length c0 (fun _ => True) (fun _ => False) rfl rfl HE04.out (kOldT_rows HR.out HB04.out) (fun _ _ h => h) (fun _ h => h.elim) (fun _ _ => trivial) HB04.out (below_size HB04.out) (by simp only [List.length_nil]; omega) ?_
        intro v042 W042 ho hb hg hat
        clear hat
        rw [List.nil_append] at ho
        have HA042 := Aside0.mk ho
        have HB042 := Aside0.mk hb
        have HX042 := Aside0.mk (blk_grown HX04.out hg (fun e => absurd (Option.some.inj (show some gb = some p0 from e)) (Nat.ne_of_lt HG0.out)))
        have HO042 := Aside0.mk (blk_grown HO04.out hg (fun e => absurd (Option.some.inj (show some q04 = some p0 from e)) (Nat.ne_of_gt HD04.out)))
        clear ho hb hg
        refine hK.out _ _ ⟨(blk_cell HX042.out 0).trans rfl, (blk_cell HX042.out 1).trans rfl, (blk_cell HX042.out 2).trans rfl, (blk_cell HX042.out 3).trans rfl⟩ (fun hHeld => ?_)
        clear hK K
        refine norm_ (a' := ?_) ?_ ?_
        rotate_left
        · show Act.put _ (some 38) _ = _
          simp only [Act.put, List.setIfInBounds_toArray, List.set_cons_zero, List.set_cons_succ, i64_w, i32_w]
          rfl
        exact norm_ (by first | (simp only [putAll, Act.put, List.setIfInBounds_toArray, List.set_cons_zero, List.set_cons_succ]; done) | (simp only [putAll, Act.put, List.setIfInBounds_toArray, List.set_cons_zero, List.set_cons_succ]; rfl)) (hCont (_, _, _) _ ⟨HB042.out, HX042.out, ⟨_, rfl, HO042.out⟩, HA042.out⟩)
    · skip
      refine value_ (w1 := ?_) (v := ?_) (by rfl) rfl ?_ ?_
      rotate_left 2
      · go_simp
        constructor
        · rfl
        · rfl
      have HX4 := Aside0.mk (blk_alloc HXS.out (.cells #[.int .i64 x0, .int .i64 x1, .int .i64 x2, .slice none 0 0] 49))
      have HB4 := Aside0.mk (below_alloc HBS.out (.cells #[.int .i64 x0, .int .i64 x1, .int .i64 x2, .slice none 0 0] 49))
      have HO4 := Aside0.mk (blk_new WS (.cells #[.int .i64 x0, .int .i64 x1, .int .i64 x2, .slice none 0 0] 49))
      generalize hWn : World.alloc WS (.cells #[.int .i64 x0, .int .i64 x1, .int .i64 x2, .slice none 0 0] 49) = W4 at HX4 HB4 HO4 ⊢
      clear hWn
      generalize hbn : WS.heap.size = q4 at HO4 ⊢
      clear hbn
      refine hK.out _ _ ⟨(blk_cell HX4.out 0).trans rfl, (blk_cell HX4.out 1).trans rfl, (blk_cell HX4.out 2).trans rfl, (blk_cell HX4.out 3).trans rfl⟩ (fun hHeld => ?_)
      clear hK K
      refine norm_ (a' := ?_) ?_ ?_
      rotate_left
      · show Act.put _ (some 40) _ = _
        simp only [Act.put, List.setIfInBounds_toArray, List.set_cons_zero, List.set_cons_succ, i64_w, i32_w]
        rfl
      refine one_ (i := 0) (N := some 36) #[true, true, false, true, true, false, false] rfl rfl (by kernel_rfl) (by decide) (fun K hK => ?_)
      refine value_ (w1 := ?_) (v := ?_) (by rfl) rfl ?_ ?_
      rotate_left 2
      · go_simp
        constructor
        · rfl
        · rfl
      have HX40 := Aside0.mk (blk_alloc HX4.out (.cells #[] 49))
      have HB40 := Aside0.mk (below_alloc HB4.out (.cells #[] 49))
      have HE40 := Aside0.mk (low_lit w W4 (base := w.heap.size) (below_size HB4.out))
      have HG40 := Aside0.mk (blk_lt HX4.out)
      have HL40 := Aside0.mk (blk_lt (blk_new W4 (.cells #[] 49)))
      have HO40 := Aside0.mk (blk_alloc HO4.out (.cells #[] 49))
      have HD40 := Aside0.mk (blk_lt HO4.out)
      generalize hWn : World.alloc W4 (.cells #[] 49) = W40 at HX40 HB40 HE40 HL40 HO40 ⊢
      clear hWn
      generalize hbn : W4.heap.size = p40 at HE40 HG40 HL40 HD40 ⊢
      clear hbn
      refine hK.out _ _ ⟨(blk_cell HX40.out 0).trans rfl, (blk_cell HX40.out 1).trans rfl, (blk_cell HX40.out 2).trans rfl, (blk_cell HX40.out 3).trans rfl⟩ (fun hHeld => ?_)
      clear hK K
      refine norm_ (a' := ?_) ?_ ?_
      rotate_left
      · show Act.put _ (some 36) _ = _
        simp only [Act.put, List.setIfInBounds_toArray, List.set_cons_zero, List.set_cons_succ, i64_w, i32_w]
        rfl
      refine one_ (i := 2) (N := some 38) #[true, true, true, true, true, false, false] rfl rfl (by kernel_rfl) (by decide) (fun K hK => ?_)
      refine Kd.R_append_rows_step (kOldT w) (w0 := w) w.heap.size (by rfl) (.tmp 36) (.tmp 37) 22 49 (.agg #[(.int .i64 0), (.int .i64 0), (.int .i64 0), (.slice none 0 0)]) 48 rfl Try.underlying22 info49 rfl (show 0 < 4 by decide) (by omega) _ ([] : List S49) l0 A0 l0.length c0 (fun _ => True) (fun _ => False) rfl rfl HE40.out (kOldT_rows HR.out HB40.out) (fun _ _ h => h) (fun _ h => h.elim) (fun _ _ => trivial) HB40.out (below_size HB40.out) (by simp only [List.length_nil]; omega) ?_
      intro v402 W402 ho hb hg hat
      clear hat
      rw [List.nil_append] at ho
      have HA402 := Aside0.mk ho
      have HB402 := Aside0.mk hb
      have HX402 := Aside0.mk (blk_grown HX40.out hg (fun e => absurd (Option.some.inj (show some gb = some p40 from e)) (Nat.ne_of_lt HG40.out)))
      have HO402 := Aside0.mk (blk_grown HO40.out hg (fun e => absurd (Option.some.inj (show some q4 = some p40 from e)) (Nat.ne_of_lt HD40.out)))
      clear ho hb hg
      refine hK.out _ _ ⟨(blk_cell HX402.out 0).trans rfl, (blk_cell HX402.out 1).trans rfl, (blk_cell HX402.out 2).trans rfl, (blk_cell HX402.out 3).trans rfl⟩ (fun hHeld => ?_)
      clear hK K
      refine norm_ (a' := ?_) ?_ ?_
      rotate_left
      · show Act.put _ (some 38) _ = _
        simp only [Act.put, List.setIfInBounds_toArray, List.set_cons_zero, List.set_cons_succ, i64_w, i32_w]
        rfl
      exact norm_ (by first | (simp only [putAll, Act.put, List.setIfInBounds_toArray, List.set_cons_zero, List.set_cons_succ]; done) | (simp only [putAll, Act.put, List.setIfInBounds_toArray, List.set_cons_zero, List.set_cons_succ]; rfl)) (hCont (_, _, _) _ ⟨HB402.out, HX402.out, ⟨_, rfl, HO402.out⟩, HA402.out⟩)
  rintro ⟨v36, v38, v40⟩ w5 ⟨hb5, hx5, ⟨b40, e40, ho5⟩, ha5⟩
  have HB5 := Aside0.mk hb5
  have HX5 := Aside0.mk hx5
  have HO5 := Aside0.mk ho5
  have HA5 := Aside0.mk ha5
  dsimp only at e40
  subst e40
  clear hb5 hx5 ho5 ha5
  have hHeld : w5.cell? ⟨gb, 0, none⟩ = some (.int .i64 x0) ∧ w5.cell? ⟨gb, 1, none⟩ = some (.int .i64 x1) ∧ w5.cell? ⟨gb, 2, none⟩ = some (.int .i64 x2) ∧ w5.cell? ⟨gb, 3, none⟩ = some (.slice none 0 0) := ⟨(blk_cell HX5.out 0).trans rfl, (blk_cell HX5.out 1).trans rfl, (blk_cell HX5.out 2).trans rfl, (blk_cell HX5.out 3).trans rfl⟩
  refine norm_ (a' := ?_) ?_ ?_
  rotate_left
  · simp only [putAll, Act.put, List.setIfInBounds_toArray, List.set_cons_zero, List.set_cons_succ]
    rfl
  refine last_ (i := 5) (N := some 41) #[true, true, true, true, true, true, false] rfl rfl (by kernel_rfl) (by decide) (fun K hK => ?_)
  refine Kd.R_append_rows_step (kOldT w) (w0 := w) w.heap.size (by rfl) (.tmp 38) (.tmp 40) 22 49 (.agg #[(.int .i64 0), (.int .i64 0), (.int .i64 0), (.slice none 0 0)]) 48 rfl Try.underlying22 info49 rfl (show 0 < 4 by decide) (by omega) _ l0 [⟨x0, x1, x2, []⟩] (some ⟨b40, 0, none⟩) 1 1 (fun _ => True) (fun _ => False) rfl rfl HA5.out (low_row (cs := [.int .i64 x0, .int .i64 x1, .int .i64 x2, .slice none 0 0]) HO5.out rfl (k49_mk w ⟨x0, x1, x2, []⟩ (A3 := none) (c3 := 0) (Nat.le_refl _) (Kd.C_nil _ _))) (fun _ _ h => h) (fun _ h => h.elim) (fun _ _ => trivial) HB5.out (below_size HB5.out) (by omega) ?_
  intro v41 w6 ho hb hg hat
  clear hat hg
  have HA6 := Aside0.mk ho
  have HB6 := Aside0.mk hb
  clear ho hb
  refine hK.out _ _ ?_
  clear hK K
  refine norm_ (a' := ?_) ?_ ?_
  rotate_left
  · show Act.put _ (some 41) _ = _
    simp only [Act.put, List.setIfInBounds_toArray, List.set_cons_zero, List.set_cons_succ, i64_w, i32_w]
    rfl
  refine pure_ (i := 6) (N := some 11) (v := ?_) (a' := ?_) #[true, true, true, true, true, true, true] rfl rfl (by kernel_rfl) (fun _ _ _ h => h) (Or.inl ⟨by rfl, ?_⟩) ?_ ?_
  rotate_left
  · intro w'
    go_simp
    with_reducible rfl
  rotate_left
  · simp only [Act.put, List.setIfInBounds_toArray, List.set_cons_zero, List.set_cons_succ, i64_w, i32_w]
    rfl
  refine done_ (by kernel_rfl) ?_
--R4]
  clear hHeld HX5 HB5 HO5 HA5
  clear hHeld HXS HBS
  obtain ⟨m, hm⟩ : ∃ m, m = l0 ++ [(⟨x0, x1, x2, []⟩ : S49)] := ⟨_, rfl⟩
  rw [← hm] at HA6 Q4 Q5 Q6
  have HML : Aside0 (m.length = l0.length + 1) := ⟨by rw [hm]; simp⟩
  clear hm
  obtain ⟨ga, ca, ea, _⟩ := Kd.R_form HA6.out (by have := HML.out; omega)
  subst ea
  have hca : m.length ≤ ca := (Kd.R_reads' HA6.out).2.1
  have HM6 := Aside0.mk (kOldT_C (Kd.R_reads' HA6.out).2.2 HB6.out)
  have HCM := Aside0.mk hca
  clear hca HA6
  go_wp2_with (first
    | ((with_reducible refine gate_dst (N := 42) rfl ?_); refine Kd.R_lit (kOldL w) _ 38 ?hg (N := 42) ?hd (xs := ([] : List (List Int))) (inner := []) (ok := fun _ => True) (okp := fun _ => True) ?hr ?hp (fun _ hk => hk) trivial (Below.refl _ _) (Nat.le_refl _) (by simp) ?_; (case hd => rfl); (case hg => rfl); (case hr => first | (go_simp; done) | (go_simp; rfl)); (case hp => exact Reps.none _ _); intro va w7 ho7 hb7 hg_ hnew_; clear hg_ hnew_; have HA7 := Aside0.mk ho7; have HB7 := Aside0.mk hb7; clear ho7 hb7)
    | ((with_reducible refine gate_builtin (b := .append) (xs := #[.tmp 42, .tmp 43]) rfl ?_); at_builtin; refine Kd.R_append_rows (kOldL w) (w0 := w6) w6.heap.size rfl (.tmp 42) (.tmp 43) 30 38 (.slice none 0 0) 24 rfl Try.underlying30 info38 rfl (show 0 < 1 by decide) (by omega) va ([] : List (List Int)) l1 A1 l1.length c1 (fun _ => True) (fun _ => False) rfl rfl HA7.out (kOldL_rows HS.out (below_step HB6.out HB7.out)) (fun _ _ h => h) (fun _ h => h.elim) (fun _ _ => trivial) HB7.out (below_size HB7.out) (by simp only [List.length_nil]; omega) ?_; intro vb w8 ho8 hb8 hg8 hat8; clear hg8 hat8; rw [List.nil_append] at ho8; have HA8 := Aside0.mk ho8; have HB8 := Aside0.mk hb8; clear ho8 hb8 HA7 HB7)
    | ((with_reducible refine gate_dst (N := 46) rfl ?_); refine Kd.R_lit (kOldL w) _ 38 ?hg2 (N := 46) ?hd2 (xs := [l4]) (inner := [.slice A4 l4.length c4]) (ok := fun _ => True) (okp := fun _ => True) ?hr2 ?hp2 (fun _ hk => hk) trivial (Below.refl _ _) (Nat.le_refl _) (by simp) ?_; (case hd2 => rfl); (case hg2 => rfl); (case hr2 => first | (go_simp; done) | (go_simp; rfl)); (case hp2 => exact Reps.one ⟨A4, c4, rfl, HC4.out, H4R.out⟩ (Reps.none _ _)); intro vc w9 ho9 hb9 hg_ hnew_; clear hg_ hnew_; have HA9 := Aside0.mk (Kd.R_below HA8.out hb9); have HB9 := Aside0.mk (below_step HB8.out hb9); obtain ⟨gc, cc, ec, _⟩ := Kd.R_form ho9 (by simp); subst ec; have HC9 := Aside0.mk (Kd.R_reads' ho9).2.2; clear ho9 hb9 HA8 HB8)
    | ((with_reducible refine gate_builtin (b := .append) (xs := #[.tmp 44, .tmp 46]) rfl ?_); at_builtin; refine Kd.R_append_rows (kOldL w) (Rr := (Kd.slice 3 (Kd.int .i64)).K w) (w0 := w6) w6.heap.size rfl (.tmp 44) (.tmp 46) 30 38 (.slice none 0 0) 24 rfl Try.underlying30 info38 rfl (show 0 < 1 by decide) (by omega) vb l1 [l4] (some ⟨gc, 0, none⟩) 1 cc (fun _ => True) (fun _ => False) rfl rfl HA9.out HC9.out (fun _ _ h => h) (fun _ h => h.elim) (fun _ _ => trivial) HB9.out (below_size HB9.out) (by omega) ?_; intro vd w10 ho10 hb10 hg10 hat10; clear hg10 hat10; have HA10 := Aside0.mk ho10; have HB10 := Aside0.mk hb10; clear ho10 hb10 HA9 HB9 HC9;
        (obtain ⟨q, hq⟩ : ∃ q, q = l1 ++ [l4] := ⟨_, rfl⟩); rw [← hq] at HA10 Q5 Q6; (have HQL : Aside0 (q.length = l1.length + 1) := ⟨by rw [hq]; simp⟩); clear hq; (obtain ⟨gd, cd, ed, _⟩ := Kd.R_form HA10.out (by have := HQL.out; omega)); subst ed; have HCQ := Aside0.mk (Kd.R_reads' HA10.out).2.1; have HBX := Aside0.mk (below_step HB6.out HB10.out); have HQ10 := Aside0.mk (kOldL_C (Kd.R_reads' HA10.out).2.2 HBX.out); have HM10 := Aside0.mk (Kd.C_below HM6.out HB10.out); clear HA10 HB10 HM6 HB6)
    | fail)
  refine (ceiling_Valid.calls k _ _ m v w10 HM10.out HCM.out Q4.out).mono ?_
  rintro e w11 ⟨rfl, hb⟩
  have HM11 := Aside0.mk (Kd.C_below HM10.out hb)
  have HQ11 := Aside0.mk (Kd.C_below HQ10.out hb)
  have HB11 := Aside0.mk (below_step HBX.out hb)
  clear hb HM10 HQ10 HBX
  cases v with
  | false =>
    go_wp2
    go_ret
    exact ⟨rfl, HB11.out⟩
  | true =>
  obtain ⟨M, h5, h7⟩ := Q5.out rfl
  have Q7 := Aside0.mk h5
  have Q8 := Aside0.mk h7
  clear h5 h7 Q5
  go_wp2_with fail
  refine (ontimelaw43_plain.calls k _ _ m M w11 HM11.out HCM.out Q7.out).mono ?_
  rintro e w12 ⟨vm, rfl, hm, hb⟩
  obtain ⟨Am, cm, rfl, hcm, hcM⟩ := Kd.S_reads hm
  have HMR := Aside0.mk hcM
  have HCR := Aside0.mk hcm
  have HM12 := Aside0.mk (Kd.C_below HM11.out hb)
  have HQ12 := Aside0.mk (Kd.C_below HQ11.out hb)
  have HB12 := Aside0.mk (below_step HB11.out hb)
  clear hb hm hcM hcm HM11 HQ11 HB11
  go_wp2_with fail
  refine (ontimeref43_Spaced.calls k _ _ M _ _ q s w12 HMR.out HCR.out HQ12.out HCQ.out Q8.out).mono ?_
  rintro e w13 ⟨rfl, hdr⟩
  have hb : Below w12.heap.size w12 w13 := by obtain ⟨n, rfl⟩ := hdr; exact pw_below_drewN (Below.refl _ _) n
  have HM13 := Aside0.mk (Kd.C_below HM12.out hb)
  have HQ13 := Aside0.mk (Kd.C_below HQ12.out hb)
  have HB13 := Aside0.mk (below_step HB12.out hb)
  clear hb hdr HM12 HQ12 HB12 HMR HCR Q7 Q8
  cases s with
  | false =>
    go_wp2
    go_ret
    exact ⟨rfl, HB13.out⟩
  | true =>
  obtain ⟨r1, r2, h6, h7, h8, h9⟩ := Q6.out (by simp) (by simp)
  have S1 := Aside0.mk h6
  have S2 := Aside0.mk h7
  have S3 := Aside0.mk h9
  have HLEN := Aside0.mk h8
  clear h6 h7 h8 h9 Q6
  go_wp2_with fail
  refine (ceiling_Simulate.calls k _ _ l0 _ _ l1 a2 r1 0 w13 (Kd.C_below HR.out HB13.out) HC0.out (Kd.C_below HS.out HB13.out) HC1.out S1.out).mono ?_
  rintro e w14 ⟨v1, rfl, hj, hb⟩
  obtain ⟨A7, c7, rfl, _, _⟩ := Kd.R_reads hj
  have HJ1 := Aside0.mk (Kd.R_reads' hj).2.2
  have HCJ1 := Aside0.mk (Kd.R_reads' hj).2.1
  have HM14 := Aside0.mk (Kd.C_below HM13.out hb)
  have HQ14 := Aside0.mk (Kd.C_below HQ13.out hb)
  have HB14 := Aside0.mk (below_step HB13.out hb)
  clear hb hj HM13 HQ13 HB13
  go_wp2_with fail
  refine (ceiling_Simulate.calls k _ _ m _ _ q a2 r2 0 w14 HM14.out HCM.out HQ14.out HCQ.out S2.out).mono ?_
  rintro e w15 ⟨v2, rfl, hj, hb⟩
  obtain ⟨A8, c8, rfl, _, _⟩ := Kd.R_reads hj
  have HJ2 := Aside0.mk (Kd.R_reads' hj).2.2
  have HCJ2 := Aside0.mk (Kd.R_reads' hj).2.1
  have HJ15 := Aside0.mk (Kd.C_below HJ1.out hb)
  have HB15 := Aside0.mk (below_step HB14.out hb)
  clear hb hj HM14 HQ14 HB14 HJ1
  obtain ⟨wo, rfl⟩ : ∃ wo : World, wo = w15 := ⟨_, rfl⟩
  go_wp2_with fail
  go_loopw [17, 74] (fun v17 v74 wr => ∃ (i : Int), v74 = .int .i64 i ∧ 0 ≤ i ∧ i ≤ r2.length ∧ Aside0 (Kd.R k34 34 wr wo.heap.size (fun _ => True) v17 ((r2.take i.toNat).filter (lowJ l0.length))) ∧ Aside0 (Below wo.heap.size wo wr)) (fun _ v _ => r2.length - (intOf v).toNat)
  case atStart => exact ⟨0, rfl, by omega, by omega, ⟨by simpa using Kd.R_nil _ _ _ _ _⟩, ⟨Below.refl _ _⟩⟩
  case round =>
    obtain ⟨i, rfl, i0, i1, HO, HB⟩ := hrel
    have hlb := HLEN.out
    by_cases hi : i < r2.length
    · obtain ⟨ad, hA, y0, y1, y2, y3, y4⟩ := at_T34 (Kd.C_below HJ2.out HB.out) i i0 hi
      subst hA
      have HT := Aside0.mk (low_take (l := r2) (l0.length : Int) i0 hi)
      have HLL : Aside0 (((r2.take i.toNat).filter (lowJ l0.length)).length ≤ 1000000) := ⟨by have h1 := List.length_filter_le (lowJ l0.length) (r2.take i.toNat); rw [List.length_take] at h1; have := HLEN.out; omega⟩
      generalize rd_T34 r2 i = j at y0 y1 y2 y3 y4 HT
      by_cases hj : j.f0 < (l0.length : Int)
      · go_wp2_with (first
          | ((with_reducible refine gate_builtin (b := .append) (xs := #[.tmp 83, .tmp 85]) rfl ?_); at_builtin; refine Kd.R_append k34 (w0 := wo) wo.heap.size rfl (.tmp 83) (.tmp 85) 26 34 (.agg #[(.int .i64 0), (.int .i64 0), (.int .i64 0), (.int .i64 0), (.int .i64 0)]) 40 rfl Try.underlying26 info34 rfl (by decide) (by omega) u17 _ j [.int .i64 j.f0, .int .i64 j.f1, .int .i64 j.f2, .int .i64 j.f3, .int .i64 j.f4] (fun _ => True) (fun _ => False) rfl (by first | (go_simp; done) | (go_simp; rfl)) (k34_mkM _ _ _ j) (fun _ hk => hk.elim) (fun _ _ => trivial) (Kd.R_alloc HO.out _) (below_alloc HB.out _) (below_size (below_alloc HB.out _)) (by have := HLL.out; omega) ?_; intro v1 w1 ho hb hg hat; clear hg hat; have HO2 := Aside0.mk ho; have HB2 := Aside0.mk hb; clear ho hb)
          | fail)
        exact ⟨⟨i + 1, rfl, by omega, by omega, ⟨by rw [HT.out, if_pos hj]; exact HO2.out⟩, HB2⟩, by simp [intOf]; omega⟩
      · go_wp2_with fail
        exact ⟨⟨i + 1, rfl, by omega, by omega, ⟨by rw [HT.out, if_neg hj, List.append_nil]; exact Kd.R_alloc HO.out _⟩, ⟨below_alloc HB.out _⟩⟩, by simp [intOf]; omega⟩
    · have HE : Aside0 (i.toNat = r2.length) := ⟨by omega⟩
      have ho := HO.out
      rw [HE.out, List.take_length] at ho
      obtain ⟨Ao, co, eo, _, _⟩ := Kd.R_reads ho
      subst eo
      have HQ := Aside0.mk (Kd.R_reads' ho).2.2
      have HCQ2 := Aside0.mk (Kd.R_reads' ho).2.1
      clear ho HO
      go_wp2_with (first
        | (go_at_call 38; refine (ceiling_Job.calls k A7 c7 r1 Ao co (r2.filter (lowJ l0.length)) true wr (Kd.C_below HJ15.out HB.out) HCJ1.out HQ.out HCQ2.out S3.out).mono ?_; rintro e w16 ⟨rfl, hdr⟩; have HBF := Aside0.mk (below_step (below_step HB15.out HB.out) (show Below wr.heap.size wr w16 by obtain ⟨n, rfl⟩ := hdr; exact pw_below_drewN (Below.refl _ _) n)); clear hdr)
        | fail)
      go_ret
      exact ⟨rfl, HBF.out⟩
end
theorem ontimelaw43_CeilingLower.calls (k : Nat) (A0 : Option Addr) (c0 : Nat) (l0 : List (S49)) (A1 : Option Addr) (c1 : Nat) (l1 : List (List Int)) (a2 x0 x1 x2 : Int) (A3 : Option Addr) (c3 : Nat) (l3 : List S68) (A4 : Option Addr) (c4 : Nat) (l4 : List Int) (r : Bool) (w : World) (hr0 : Kd.C k49 w A0 l0.length l0) (hc0 : l0.length ≤ c0)
    (hr1 : Kd.C (Kd.slice 3 (Kd.int .i64)) w A1 l1.length l1) (hc1 : l1.length ≤ c1) (hr3 : Kd.C k68 w A3 l3.length l3) (hc3 : l3.length ≤ c3) (hr4 : Kd.C (Kd.int .i64) w A4 l4.length l4) (hc4 : l4.length ≤ c4) (h : ontimelaw43_CeilingLower.f k l0 l1 a2 x0 x1 x2 l3 l4 = some r) :
    Calls Try.prog 14 #[.slice A0 l0.length c0, .slice A1 l1.length c1, .int .i64 a2, .agg #[.int .i64 x0, .int .i64 x1, .int .i64 x2, .slice A3 l3.length c3], .slice A4 l4.length c4] w fun e w' => e = .returned (.bool r) ∧ Below w.heap.size w w' := by
  unfold ontimelaw43_CeilingLower.f at h
  obtain ⟨t, h1, h⟩ := Option.bind_eq_some_iff.mp h
  cases t with
  | false => rw [if_neg (by simp)] at h; cases h
  | true =>
  rw [if_pos rfl] at h
  obtain ⟨g, h2, h⟩ := Option.bind_eq_some_iff.mp h
  cases g with
  | false =>
    rw [if_neg (by simp)] at h
    obtain rfl := Option.some.inj h
    exact low_no k A0 c0 l0 A1 c1 l1 a2 x0 x1 x2 A3 c3 l3 A4 c4 l4 w hr0 hc0 hr1 hc1 h1 h2
  | true =>
  rw [if_pos rfl] at h
  by_cases h3 : l4.length ≤ 6
  case neg =>
    rw [if_neg h3] at h
    obtain rfl := Option.some.inj h
    exact low_long k A0 c0 l0 A1 c1 l1 a2 x0 x1 x2 A3 c3 l3 A4 c4 l4 w hr0 hc0 hr1 hc1 h1 h2 h3
  rw [if_pos h3] at h
  by_cases hl : l0.length ≤ 1000 ∧ l1.length ≤ 1000
  case neg => rw [if_neg hl] at h; cases h
  rw [if_pos hl] at h
  obtain ⟨v, h4, h⟩ := Option.bind_eq_some_iff.mp h
  have main := fun s h5 h6 => low_main k A0 c0 l0 A1 c1 l1 a2 x0 x1 x2 A3 c3 l3 A4 c4 l4 w hr0 hc0 hr1 hc1 v s hr4 hc4 h1 h2 h3 hl.1 hl.2 h4 h5 h6
  cases v with
  | false =>
    rw [if_neg (by simp)] at h
    obtain rfl := Option.some.inj h
    exact main false (fun hh => by cases hh) (fun hh => by cases hh)
  | true =>
  rw [if_pos rfl] at h
  obtain ⟨M, h5, h⟩ := Option.bind_eq_some_iff.mp h
  obtain ⟨s, h6, h⟩ := Option.bind_eq_some_iff.mp h
  cases s with
  | false =>
    rw [if_neg (by simp)] at h
    obtain rfl := Option.some.inj h
    exact main false (fun _ => ⟨M, h5, h6⟩) (fun _ hh => by cases hh)
  | true =>
  rw [if_pos rfl] at h
  obtain ⟨⟨r1, e1⟩, h7, h⟩ := Option.bind_eq_some_iff.mp h
  obtain ⟨⟨r2, e2⟩, h8, h⟩ := Option.bind_eq_some_iff.mp h
  by_cases hk : e1 = 0 ∧ e2 = 0 ∧ r2.length ≤ 1000000
  case neg => rw [if_neg hk] at h; cases h
  rw [if_pos hk] at h
  obtain ⟨rfl, rfl, hlen⟩ := hk
  obtain ⟨b, h9, h⟩ := Option.bind_eq_some_iff.mp h
  cases b with
  | false => rw [if_neg (by simp)] at h; cases h
  | true =>
  rw [if_pos rfl] at h
  obtain rfl := Option.some.inj h
  exact main true (fun _ => ⟨M, h5, h6⟩) (fun _ _ => ⟨r1, r2, h7, h8, hlen, h9⟩)

end Go.Proofs.Ytcmifojplgmgkaa.P
