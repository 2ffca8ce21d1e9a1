-- written by wip/drive.py (a driver of this session's own over the kit's print.py)
import Derived.LaidEqlPtr
import Derived.Lib.SliceRun
import Derived.Test.YtcmifojplgmgkaaP0
namespace Go.Proofs.Ytcmifojplgmgkaa.P
open Go.RowKit Go.Proofs.YtcmifojplgmgkaaW.PrintWords Go.Proofs.YtcmifojplgmgkaaW.PrintLast Go.Proofs.YtcmifojplgmgkaaW.PrintMore
attribute [local go_sem] max2_int min2_int max_two min_two max_three min_three max_four min_four   -- for this text's walks alone
set_option linter.unusedVariables false
set_option linter.unusedSimpArgs false

-- PLUG
/-! ### ceiling_pending_54 (function 54): by hand: it hands on a function value -/
theorem size82 : (Try.prog.info? 82).map (·.size) = some 7 := by kernel_rfl
theorem info82_ : ∃ j, Try.prog.info? 82 = some j ∧ j.size = 7 := by
  obtain ⟨j, h1, h2⟩ := Option.map_eq_some_iff.1 size82
  exact ⟨j, h1, h2⟩
/-- A pending job's block. -/
def IsPend (w : World) (b : Nat) : Prop := ∃ cs, w.heap[b]? = some (.cells cs 82 (0, 0))
theorem eql_same (w : World) (b : Nat) : (binOp .eql 80 (.pointer (some ⟨b, 0, none⟩)) (.pointer (some ⟨b, 0, none⟩))).run Try.prog w = .ok (.bool true) w := by
  obtain ⟨j, h1, _⟩ := info82_
  exact run_eql_ptr_same w _ Try.underlying80 h1
theorem eql_other (w : World) {a b : Nat} (hne : a ≠ b) (ha : IsPend w a) (hb : IsPend w b) : (binOp .eql 80 (.pointer (some ⟨a, 0, none⟩)) (.pointer (some ⟨b, 0, none⟩))).run Try.prog w = .ok (.bool false) w := by
  obtain ⟨j, h1, h2⟩ := info82_
  obtain ⟨ca, ha⟩ := ha
  obtain ⟨cb, hb⟩ := hb
  exact run_eql_ptr_other w Try.underlying80 h1 (by omega) (fun e => hne (by injection e)) ha hb
set_option maxHeartbeats 8000000 in
set_option maxRecDepth 100000 in
theorem isP_yes (mb b : Nat) (w : World) (h : w.cell? ⟨b, 0, none⟩ = some (.pointer (some ⟨mb, 0, none⟩))) :
    Calls Try.prog 55 #[.pointer (some ⟨mb, 0, none⟩), .pointer (some ⟨b, 0, none⟩)] w fun e w' => e = .returned (.bool true) ∧ w' = w := by
  have E := eql_same w mb
  go_enter Try.func55, Try.ntmps55
  go_wp2
  go_ret
  exact ⟨rfl, rfl⟩
set_option maxHeartbeats 8000000 in
set_option maxRecDepth 100000 in
theorem isP_no (qb mb b : Nat) (hne : qb ≠ mb) (w : World) (hq : IsPend w qb) (hm : IsPend w mb) (h : w.cell? ⟨b, 0, none⟩ = some (.pointer (some ⟨mb, 0, none⟩))) :
    Calls Try.prog 55 #[.pointer (some ⟨qb, 0, none⟩), .pointer (some ⟨b, 0, none⟩)] w fun e w' => e = .returned (.bool false) ∧ w' = w := by
  have E := eql_other w hne hq hm
  clear hq hm
  go_enter Try.func55, Try.ntmps55
  go_wp2
  go_ret
  exact ⟨rfl, rfl⟩
/-- The pointers of a row of pending jobs. -/
def ptrs (bs : List Nat) : List Value := bs.map fun b => .pointer (some ⟨b, 0, none⟩)
set_option maxHeartbeats 8000000 in
set_option maxRecDepth 100000 in
/-- slices.IndexFunc with q == p: the first place of p. -/
theorem indexP (g cap mb b : Nat) (pre post : List Nat) (w : World) (hpre : ∀ x ∈ pre, x ≠ mb ∧ IsPend w x) (hm : IsPend w mb) (hc : ∀ (j : Nat) (v : Value), (ptrs (pre ++ mb :: post))[j]? = some v → w.cell? ⟨g, j, none⟩ = some v)
    (hl : (pre ++ mb :: post).length ≤ 1000000) (h : w.cell? ⟨b, 0, none⟩ = some (.pointer (some ⟨mb, 0, none⟩))) :
    Calls Try.prog 64 #[.slice (some ⟨g, 0, none⟩) (pre ++ mb :: post).length cap, .func (.func 55) #[] #[.pointer (some ⟨b, 0, none⟩)]] w fun e w' => e = .returned (.int .i64 pre.length) ∧ w' = w := by
  obtain ⟨n, hn⟩ : ∃ n, n = (pre ++ mb :: post).length := ⟨_, rfl⟩
  have hlen : pre.length + 1 ≤ n := by rw [hn, List.length_append, List.length_cons]; omega
  rw [← hn] at hl ⊢
  have HN := Aside0.mk hn
  clear hn
  have HC := Aside0.mk hc
  have HP := Aside0.mk hpre
  have HM := Aside0.mk hm
  clear hc hpre hm
  go_enter Try.func64, Try.ntmps64
  go_wp2
  go_loopw [8] (fun v8 wr => ∃ i : Int, v8 = .int .i64 i ∧ 0 ≤ i ∧ i ≤ pre.length ∧ wr = w) (fun v _ => n - (intOf v).toNat)
  case atStart => exact ⟨0, rfl, by omega, by omega, rfl⟩
  case round =>
    obtain ⟨i, rfl, i0, i1, rfl⟩ := hrel
    have hin : i < n := by omega
    by_cases hi : i = pre.length
    · subst hi
      have x0 : wr.cell? ⟨g, pre.length, none⟩ = some (.pointer (some ⟨mb, 0, none⟩)) := HC.out pre.length _ (by unfold ptrs; rw [List.getElem?_map, List.getElem?_append_right (by omega), Nat.sub_self]; rfl)
      go_wp2_with fail
      refine (isP_yes mb b wr h).mono ?_
      rintro e w1 ⟨rfl, rfl⟩
      go_wp2
      go_ret
      exact ⟨rfl, rfl⟩
    · have hip : i.toNat < pre.length := by omega
      obtain ⟨hx1, hx2⟩ := HP.out pre[i.toNat] (List.getElem_mem _)
      have x0 : wr.cell? ⟨g, i.toNat, none⟩ = some (.pointer (some ⟨pre[i.toNat], 0, none⟩)) := HC.out i.toNat _ (by unfold ptrs; rw [List.getElem?_map, List.getElem?_append_left hip, List.getElem?_eq_getElem hip]; rfl)
      generalize pre[i.toNat] = qb at hx1 hx2 x0
      have HQ := Aside0.mk hx2
      clear hx2
      go_wp2_with fail
      refine (isP_no qb mb b hx1 wr HQ.out HM.out h).mono ?_
      rintro e w1 ⟨rfl, rfl⟩
      go_wp2
      exact ⟨⟨i + 1, rfl, by omega, by omega, trivial⟩, by simp [intOf]; omega⟩
theorem row_at {w : World} {base g n cap q : Nat} {xs : List Value} {u : Value} (h : w.ownsRow base 80 1 (.slice (some ⟨g, 0, none⟩) n cap) n xs) (hu : xs[q]? = some u) : w.cell? ⟨g, q, none⟩ = some u := by
  have := h.cells (g := g) (by simp [Value.ownBlock]) q u hu
  rwa [add_plain] at this
theorem own_shrink {w : World} {base g n cap m : Nat} {e : TypeId} {xs : List Value} (h : w.ownsRow base e 1 (.slice (some ⟨g, 0, none⟩) n cap) n xs) (hm : m ≤ n) : w.ownsRow base e 1 (.slice (some ⟨g, 0, none⟩) m cap) m (xs.take m) := by
  obtain ⟨hl, h2⟩ := h
  rcases h2 with ⟨h2, _⟩ | ⟨g', cap', cur, hv, hb, hh, hnc, hcm, hcs, hx⟩
  · cases h2
  · injection hv with ha _ hc
    injection ha with ha
    injection ha with hg
    subst hg hc
    refine ⟨by rw [List.length_take]; omega, .inr ⟨g, cap, cur, rfl, hb, hh, by omega, hcm, hcs, ?_⟩⟩
    rw [← hx, List.take_take, Nat.min_eq_left (by omega), Nat.mul_one]
set_option maxHeartbeats 8000000 in
set_option maxRecDepth 100000 in
/-- slices.DeleteFunc with q == p. -/
theorem deleteP (g cap mb b base n : Nat) (pre post : List Nat) (w : World) (hn : n = (pre ++ mb :: post).length) (hrow : w.ownsRow base 80 1 (.slice (some ⟨g, 0, none⟩) n cap) n (ptrs (pre ++ mb :: post)))
    (hpre : ∀ x ∈ pre ++ post, x ≠ mb ∧ x ≠ g ∧ IsPend w x) (hm : IsPend w mb) (hmg : mb ≠ g) (hl : n ≤ 1000000) (h : w.cell? ⟨b, 0, none⟩ = some (.pointer (some ⟨mb, 0, none⟩))) (hbg : b ≠ g) :
    Calls Try.prog 54 #[.slice (some ⟨g, 0, none⟩) n cap, .func (.func 55) #[] #[.pointer (some ⟨b, 0, none⟩)]] w fun e w' =>
      e = .returned (.slice (some ⟨g, 0, none⟩) (n - 1) cap) ∧ w'.ownsRow base 80 1 (.slice (some ⟨g, 0, none⟩) (n - 1) cap) (n - 1) (ptrs (pre ++ post)) ∧ w.grownBy w' (some g) := by
  have hlen : pre.length + 1 + post.length = n := by rw [hn, List.length_append, List.length_cons]; omega
  have HROW := Aside0.mk hrow
  have HP := Aside0.mk hpre
  have HM := Aside0.mk hm
  have hix := indexP g cap mb b pre post w (fun x hx => ⟨(hpre x (List.mem_append_left _ hx)).1, (hpre x (List.mem_append_left _ hx)).2.2⟩) hm (fun j v hv => row_at hrow hv) (by omega) h
  rw [← hn] at hix
  have HIX := Aside0.mk hix
  have hi1 : ((pre.length : Int) == -1) = false := beq_eq_false_iff_ne.2 (by omega)
  clear hrow hpre hm hix hn
  go_enter Try.func54, Try.ntmps54
  go_wp2_with fail
  refine HIX.out.mono ?_
  rintro e w1 ⟨rfl, hw1⟩
  subst hw1
  go_wp2
  go_loopw [5, 6] (fun v5 v6 wr => ∃ (i : Int), v5 = .int .i64 i ∧ v6 = .int .i64 (i + 1) ∧ pre.length ≤ i ∧ i + 1 ≤ n ∧ Aside0 (w1.grownBy wr (some g)) ∧ Aside0 (∃ xs, wr.ownsRow base 80 1 (.slice (some ⟨g, 0, none⟩) n cap) n xs ∧ (∀ q : Nat, (q : Int) < i → xs[q]? = (ptrs (pre ++ post))[q]?) ∧ (∀ q : Nat, i < (q : Int) → xs[q]? = (ptrs (pre ++ mb :: post))[q]?))) (fun _ v _ => n - (intOf v).toNat)
  case atStart => exact ⟨pre.length, rfl, rfl, by omega, by omega, ⟨World.grownBy.refl _ _⟩, ⟨_, HROW.out, fun q hq => by
      unfold ptrs
      rw [List.getElem?_map, List.getElem?_map, List.getElem?_append_left (by omega), List.getElem?_append_left (by omega)], fun q _ => rfl⟩⟩
  case round =>
    obtain ⟨i, rfl, rfl, i0, i1, HG, HX⟩ := hrel
    obtain ⟨xs, hxr, hxa, hxb⟩ := HX.out
    by_cases hi : i + 1 < n
    · obtain ⟨k, hk⟩ : ∃ k : Nat, i = k := ⟨i.toNat, by omega⟩
      subst hk
      have hkp : k - pre.length < post.length := by omega
      have hfull : (ptrs (pre ++ mb :: post))[k + 1]? = some (.pointer (some ⟨post[k - pre.length], 0, none⟩)) := by
        unfold ptrs
        rw [List.getElem?_map, List.getElem?_append_right (by omega), show k + 1 - pre.length = (k - pre.length) + 1 by omega, List.getElem?_cons_succ, List.getElem?_eq_getElem hkp]
        rfl
      have hshort : (ptrs (pre ++ post))[k]? = some (.pointer (some ⟨post[k - pre.length], 0, none⟩)) := by
        unfold ptrs
        rw [List.getElem?_map, List.getElem?_append_right (by omega), List.getElem?_eq_getElem hkp]
        rfl
      obtain ⟨p1, p2, p3⟩ := HP.out post[k - pre.length] (List.mem_append_right _ (List.getElem_mem _))
      have x1 : wr.cell? ⟨g, k + 1, none⟩ = some (.pointer (some ⟨post[k - pre.length], 0, none⟩)) := row_at hxr ((hxb (k + 1) (by omega)).trans hfull)
      generalize post[k - pre.length] = qb at p1 p2 p3 x1 hfull hshort
      have hxl : xs.length = n := by have := hxr.1; omega
      have x0 : wr.cell? ⟨g, k, none⟩ = some xs[k] := row_at hxr (List.getElem?_eq_getElem (by omega))
      obtain ⟨curs, hcurs⟩ := own_typed hxr g (by simp [Value.ownBlock])
      have f0 : wr.frozen? ⟨g, k, none⟩ = false := blk_frozen hcurs k
      have hst := hxr.stored k (.pointer (some ⟨qb, 0, none⟩))
      have HST := Aside0.mk hst
      have hpr : IsPend wr qb := by
        obtain ⟨cs, hcs⟩ := p3
        exact ⟨cs, (HG.out.block qb (blk_lt hcs) (by intro e; injection e with e; exact p2 e)).trans hcs⟩
      have hmr : IsPend wr mb := by
        obtain ⟨cs, hcs⟩ := HM.out
        exact ⟨cs, (HG.out.block mb (blk_lt hcs) (by intro e; injection e with e; exact hmg e)).trans hcs⟩
      have hbr : wr.cell? ⟨b, 0, none⟩ = some (.pointer (some ⟨mb, 0, none⟩)) := cell_grown HG.out h (by intro e; injection e with e; exact hbg e)
      have HPR := Aside0.mk hpr
      have HMR := Aside0.mk hmr
      have HXA := Aside0.mk hxa
      have HXB := Aside0.mk hxb
      have HSH := Aside0.mk hshort
      have HXL := Aside0.mk hxl
      generalize xs[k] = old at x0
      clear hxr hxa hxb hfull hshort hcurs hst hpr hmr p2 p3 HX hxl
      go_wp2_with fail
      refine (isP_no qb mb b p1 wr HPR.out HMR.out hbr).mono ?_
      rintro e w2 ⟨rfl, hw2⟩
      subst hw2
      go_wp2
      refine ⟨⟨k + 1, rfl, rfl, by omega, by omega, ⟨World.grownBy.trans HG.out HST.out.2⟩, ⟨_, HST.out.1, fun q hq => ?_, fun q hq => ?_⟩⟩, by simp [intOf]; omega⟩
      · by_cases hqk : q = k
        · subst hqk
          rw [List.getElem?_set_self (by rw [HXL.out]; omega), HSH.out]
        · rw [List.getElem?_set_ne (fun e => hqk e.symm)]
          exact HXA.out q (by omega)
      · rw [List.getElem?_set_ne (by omega)]
        exact HXB.out q (by omega)
    · obtain ⟨k, hk⟩ : ∃ k : Nat, i = k := ⟨i.toNat, by omega⟩
      subst hk
      have hkn : n = k + 1 := by omega
      have hnc : n ≤ cap := by
        rcases hxr.2 with ⟨h2, _⟩ | ⟨g', cap', cur, hv, _, _, hnc, _⟩
        · cases h2
        · injection hv with _ _ hc
          omega
      have hxl : xs.length = n := by have := hxr.1; omega
      obtain ⟨curs, hcurs⟩ := own_typed hxr g (by simp [Value.ownBlock])
      have hcl : ∀ ty, (Builtin.clear_ #[79] ty #[.slice (some ⟨g, k, none⟩) (n - k) (cap - k)]).run Try.prog wr = .ok (.tuple #[]) (wr.setCells g k (List.replicate (n - k) (.pointer none))) := fun ty =>
        Lib.run_clear_slice wr 79 80 ty (.pointer none) Try.underlying79 Try.zeroValue80 rfl rfl g k (n - k) (cap - k) (by omega)
          (fun j hj => by rw [show k + j = k by omega, row_at hxr (List.getElem?_eq_getElem (show k < xs.length by omega))]; rfl) (fun j hj => blk_frozen hcurs _)
      have hst := hxr.stored k (.pointer none)
      have hfin : (xs.set k (.pointer none)).take k = ptrs (pre ++ post) := by
        refine List.ext_getElem? fun q => ?_
        rw [List.getElem?_take]
        by_cases hq : q < k
        · rw [if_pos hq, List.getElem?_set_ne (by omega)]
          exact hxa q (by omega)
        · rw [if_neg hq, List.getElem?_eq_none]
          unfold ptrs
          rw [List.length_map, List.length_append]
          omega
      have hown := own_shrink hst.1 (show k ≤ n by omega)
      rw [hfin] at hown
      have e1 : n - k = 1 := by omega
      have hne : ¬ cap = k := by omega
      rw [e1] at hcl
      have HOWN := Aside0.mk hown
      have HGR := Aside0.mk (World.grownBy.trans HG.out hst.2)
      clear hown hst hfin hcurs hxa hxb hxr HX hxl
      go_wp2
      go_ret
      exact ⟨rfl, HOWN.out, HGR.out⟩

end Go.Proofs.Ytcmifojplgmgkaa.P
