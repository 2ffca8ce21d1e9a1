-- written by wip/drive.py (a driver of this session's own over the kit's print.py)
import Derived.Test.YtcmifojplgmgkaaP0
import Derived.Test.YtcmifojplgmgkaaP2
namespace Go.Proofs.Ytcmifojplgmgkaa.P
open Go.RowKit Go.Proofs.YtcmifojplgmgkaaW.PrintWords Go.Proofs.YtcmifojplgmgkaaW.PrintLast Go.Proofs.YtcmifojplgmgkaaW.PrintMore
attribute [local go_sem] max2_int min2_int max_two min_two max_three min_three max_four min_four   -- for this text's walks alone
set_option linter.unusedVariables false
set_option linter.unusedSimpArgs false

-- PLUG
/-! ### ceiling_Valid (function 20): by hand: it hands a function value to slices.ContainsFunc -/
def idxBad : Nat → List S49 → Int → Option Int
  | 0, _, _ => none
  | k + 1, l, i => if i < (l.length : Int) then ((ceiling_Task_valid.f k (rd_T49 l i).f0 (rd_T49 l i).f1 (rd_T49 l i).f2 (rd_T49 l i).f3).bind fun v => (if v = true then idxBad k l (i + 1) else some i)) else some (-1)
def ceiling_Valid.f (k : Nat) (l0 : List (S49)) : Option (Bool) := if (l0.length : Int) ≤ 20 then ((idxBad k l0 0).bind fun i => some (!decide (0 ≤ i))) else some false
theorem idxBad.mono : ∀ k l i, LeO (idxBad k l i) (idxBad (k + 1) l i)
  | 0 => fun _ _ r h => by simp [idxBad] at h
  | k + 1 => fun l i => by
    have ih := idxBad.mono k
    unfold idxBad
    exact LeO.ite (LeO.bind (ceiling_Task_valid.mono _ _ _ _ _) (fun _ => LeO.ite (ih _ _) (LeO.refl _))) (LeO.refl _)
theorem ceiling_Valid.mono : ∀ a0 k, LeO (ceiling_Valid.f k a0) (ceiling_Valid.f (k + 1) a0) := by
  intro a0 k
  unfold ceiling_Valid.f
  exact LeO.ite (LeO.bind (idxBad.mono _ _ _) (fun _ => LeO.refl _)) (LeO.refl _)
set_option maxHeartbeats 8000000 in
set_option maxRecDepth 100000 in
/-- The function value: not valid. -/
theorem validNot.calls (k : Nat) (a b c : Int) (A : Option Addr) (n : Nat) (l : List (S68)) (r : Bool) (w : World) (hr : Kd.C k68 w A l.length l) (hc : l.length ≤ n) (h : ceiling_Task_valid.f k a b c l = some r) :
    Calls Try.prog 46 #[.agg #[.int .i64 a, .int .i64 b, .int .i64 c, .slice A l.length n]] w fun e w' => e = .returned (.bool (!r)) ∧ Below w.heap.size w w' := by
  have hu49 := Try.underlying49
  have HR := Aside0.mk hr
  clear hr
  go_enter Try.func46, Try.ntmps46
  go_wp2_with fail
  have hb0 : Below w.heap.size w (w.alloc (.cells #[.int .i64 a, .int .i64 b, .int .i64 c, .slice A l.length n] 49)) := (Below.refl _ w).alloc (Nat.le_refl _) _
  refine (ceiling_Task_valid.calls k a b c A n l r _ (Kd.C_below HR.out hb0) hc h).mono ?_
  rintro e w1 ⟨rfl, hb1⟩
  have HB := Aside0.mk (below_step hb0 hb1)
  clear hb0 hb1
  go_wp2
  go_ret
  exact ⟨rfl, HB.out⟩
set_option maxHeartbeats 8000000 in
set_option maxRecDepth 100000 in
theorem idxBad.calls (k : Nat) (A : Option Addr) (n : Nat) (l : List (S49)) (r : Int) (w : World) (hr : Kd.C k49 w A l.length l) (hl : l.length ≤ 20) (h : idxBad k l 0 = some r) :
    Calls Try.prog 61 #[.slice A l.length n, .func (.func 46) #[] #[]] w fun e w' => e = .returned (.int .i64 r) ∧ Below w.heap.size w w' := by
  have hu49 := Try.underlying49
  have HR := Aside0.mk hr
  have HB := Aside0.mk (Below.refl w.heap.size w)
  have H' := Aside0.mk h
  clear h hr
  go_enter Try.func61, Try.ntmps61
  go_wp2
  go_loopg [8] k (fun kq v8 w' => ∃ (i : Int), v8 = .int .i64 i ∧ 0 ≤ i ∧ i ≤ l.length ∧ Aside0 (idxBad kq l i = some r) ∧ Aside0 (kq ≤ k) ∧ Aside0 (Below w.heap.size w w'))
  case atStart => exact ⟨0, rfl, by omega, by omega, H', ⟨Nat.le_refl _⟩, HB⟩
  case round =>
    clear H' HB
    obtain ⟨i, rfl, hi0, hi1, HA, HK1, HB⟩ := hrel
    cases gk with
    | zero => exact absurd HA.out (by simp [idxBad])
    | succ k1 =>
      have H := HA.out
      clear HA
      simp only [idxBad] at H
      by_cases hc : i < (l.length : Int)
      · rw [if_pos hc] at H
        replace H := Option.bind_eq_some_iff.mp H
        obtain ⟨v, A0, H⟩ := H
        have AE := Aside0.mk A0
        have HH := Aside0.mk H
        clear A0 H
        obtain ⟨ad, A3, c3, hA, x0, x1, x2, x3, x4, x5⟩ := at_T49 (Kd.C_below HR.out HB.out) i hi0 hc
        subst hA
        have X4 := Aside0.mk x4
        have X5 := Aside0.mk x5
        clear x4 x5
        go_wp2_with fail
        refine (validNot.calls k1 _ _ _ A3 c3 (rd_T49 l i).f3 v wr X5.out X4.out AE.out).mono ?_
        rintro e w1 ⟨rfl, hb1⟩
        have HB1 := Aside0.mk (below_step HB.out hb1)
        clear hb1 x0 x1 x2 x3
        by_cases hv : v = true
        · subst hv
          have H := HH.out
          rw [if_pos rfl] at H
          have H1 := Aside0.mk H
          clear H HH
          go_wp2
          go_roundg k1
          case measure => omega
          case rel => exact ⟨i + 1, by go_num, by omega, by omega, H1, ⟨by have := HK1.out; omega⟩, HB1⟩
        · obtain rfl : v = false := by simpa using hv
          have H := HH.out
          rw [if_neg (by simp)] at H
          obtain rfl := Option.some.inj H
          clear H HH hv
          go_wp2
          go_ret
          exact ⟨rfl, HB1.out⟩
      · rw [if_neg hc] at H
        obtain rfl := Option.some.inj H
        clear H
        go_wp2
        go_ret
        exact ⟨rfl, HB.out⟩
set_option maxHeartbeats 8000000 in
set_option maxRecDepth 100000 in
theorem ceiling_Valid.calls (k : Nat) (A0 : Option Addr) (c0 : Nat) (l0 : List (S49)) (r : Bool) (w : World) (hr0 : Kd.C k49 w A0 l0.length l0) (hc0 : l0.length ≤ c0) (h : ceiling_Valid.f k l0 = some r) :
    Calls Try.prog 20 #[.slice A0 l0.length c0] w fun e w' => e = .returned (.bool r) ∧ Below w.heap.size w w' := by
  unfold ceiling_Valid.f at h
  by_cases h20 : (l0.length : Int) ≤ 20
  · rw [if_pos h20] at h
    obtain ⟨i, A1, H⟩ := Option.bind_eq_some_iff.mp h
    obtain rfl := Option.some.inj H
    have AI := Aside0.mk A1
    have HR := Aside0.mk hr0
    have h20b : decide ((l0.length : Int) ≤ 20) = true := decide_eq_true h20
    have hl : l0.length ≤ 20 := by omega
    have HL := Aside0.mk hl
    clear A1 h H hr0 h20 hl
    have hcf : ∀ (w : World), Kd.C k49 w A0 l0.length l0 → Calls Try.prog 45 #[.slice A0 l0.length c0, .func (.func 46) #[] #[]] w fun e w' => e = .returned (.bool (decide (0 ≤ i))) ∧ Below w.heap.size w w' := by
      intro w hr
      have HR := Aside0.mk hr
      clear hr h20b
      go_enter Try.func45, Try.ntmps45
      go_wp2_with fail
      refine (idxBad.calls k A0 c0 l0 i w HR.out HL.out AI.out).mono ?_
      rintro e w1 ⟨rfl, hb1⟩
      have HB := Aside0.mk hb1
      clear hb1
      go_wp2
      go_ret
      exact ⟨rfl, HB.out⟩
    have HF := Aside0.mk hcf
    clear hcf
    go_enter Try.func20, Try.ntmps20
    go_wp2_with fail
    refine (HF.out w HR.out).mono ?_
    rintro e w1 ⟨rfl, hb1⟩
    have HB := Aside0.mk hb1
    clear hb1
    go_wp2
    go_ret
    exact ⟨rfl, HB.out⟩
  · rw [if_neg h20] at h
    obtain rfl := Option.some.inj h
    have h20b : decide ((l0.length : Int) ≤ 20) = false := decide_eq_false h20
    clear h h20
    go_enter Try.func20, Try.ntmps20
    go_wp2
    go_ret
    exact ⟨rfl, Below.refl _ _⟩
/-! what Valid answers -/
theorem wrap64_of {x : Int} (h : -9223372036854775808 ≤ x) (h2 : x ≤ 9223372036854775807) : wrap64 x = x := by
  unfold wrap64
  omega
/-- The sections from s on fit into a cost, the first from e on. -/
def secB (cost : Int) : Int → List S68 → Bool
  | _, [] => true
  | e, s :: r => decide (e ≤ s.f1 ∧ s.f1 < s.f2 ∧ s.f2 ≤ cost ∧ 0 ≤ s.f0 ∧ s.f0 ≤ 1000) && secB cost s.f2 r
def vldT (t : S49) : Bool := decide (1 ≤ t.f0 ∧ t.f0 ≤ 1000 ∧ 1 ≤ t.f1 ∧ t.f1 ≤ 1000 ∧ 1 ≤ t.f2 ∧ t.f2 ≤ t.f1 ∧ t.f3.length ≤ 8) && secB t.f0 0 t.f3
def vld (l : List S49) : Bool := decide (l.length ≤ 20) && l.all vldT
theorem between_eq (x lo hi : Int) : ceiling_between.f x lo hi = some (decide (lo ≤ x ∧ x ≤ hi)) := by
  unfold ceiling_between.f
  by_cases h1 : lo ≤ x
  · by_cases h2 : x ≤ hi <;> simp [h1, h2]
  · simp [h1]
theorem rd68_at (l : List S68) (i : Nat) (h : i < l.length) : rd_T68 l (i : Int) = l[i] := by
  unfold rd_T68
  rw [Int.toNat_natCast, List.getD_eq_getElem?_getD, List.getElem?_eq_getElem h]
  rfl
theorem rd49_at (l : List S49) (i : Nat) (h : i < l.length) : rd_T49 l (i : Int) = l[i] := by
  unfold rd_T49
  rw [Int.toNat_natCast, List.getD_eq_getElem?_getD, List.getElem?_eq_getElem h]
  rfl
theorem tvalid_l0 (cost p d : Int) (l : List S68) (ls : List S68) : ∀ (n i : Nat) (k : Nat) (e : Int), i + n = l.length → l.length ≤ 8 → n + 2 ≤ k →
    ceiling_Task_valid.l0 k e l (l.length : Int) (i : Int) cost p d ls = some (secB cost e (l.drop i)) := by
  intro n
  induction n with
  | zero =>
    intro i k e hi h8 hk
    obtain ⟨k, rfl⟩ : ∃ m, k = m + 1 := ⟨k - 1, by omega⟩
    simp only [ceiling_Task_valid.l0]
    rw [if_neg (by omega), List.drop_of_length_le (by omega)]
    rfl
  | succ n ih =>
    intro i k e hi h8 hk
    obtain ⟨k, rfl⟩ : ∃ m, k = m + 1 := ⟨k - 1, by omega⟩
    have hil : i < l.length := by omega
    simp only [ceiling_Task_valid.l0]
    rw [if_pos (by omega), if_pos (by omega), if_pos (by omega), rd68_at l i hil, List.drop_eq_getElem_cons hil]
    unfold secB
    by_cases h1 : l[i].f1 < e
    · rw [if_pos h1, decide_eq_false (by omega), Bool.false_and]
    rw [if_neg h1]
    by_cases h2 : l[i].f1 ≥ l[i].f2
    · rw [if_pos h2, decide_eq_false (by omega), Bool.false_and]
    rw [if_neg h2]
    by_cases h3 : l[i].f2 > cost
    · rw [if_pos h3, decide_eq_false (by omega), Bool.false_and]
    rw [if_neg h3, between_eq]
    simp only [Option.bind_some]
    by_cases h4 : 0 ≤ l[i].f0 ∧ l[i].f0 ≤ 1000
    · rw [if_pos (decide_eq_true h4), wrap64_of (x := (i : Int) + 1) (by omega) (by omega), decide_eq_true (show e ≤ l[i].f1 ∧ l[i].f1 < l[i].f2 ∧ l[i].f2 ≤ cost ∧ 0 ≤ l[i].f0 ∧ l[i].f0 ≤ 1000 by omega), Bool.true_and]
      exact ih (i + 1) k _ (by omega) h8 (by omega)
    · rw [if_neg (by simpa using h4), decide_eq_false (by omega), Bool.false_and]
theorem tvalid_eq {k : Nat} (hk : 12 ≤ k) (t : S49) : ceiling_Task_valid.f k t.f0 t.f1 t.f2 t.f3 = some (vldT t) := by
  have hj : ∀ (flag : Bool), (flag = false → t.f3.length ≤ 8) → ceiling_Task_valid.j0 k flag t.f0 t.f1 t.f2 t.f3 = some (!flag && secB t.f0 0 t.f3) := by
    intro flag hf
    obtain ⟨k, rfl⟩ : ∃ m, k = m + 1 := ⟨k - 1, by omega⟩
    simp only [ceiling_Task_valid.j0]
    cases flag with
    | true => rw [if_pos rfl]; rfl
    | false =>
      rw [if_neg (by simp)]
      have h8 := hf rfl
      have := tvalid_l0 t.f0 t.f1 t.f2 t.f3 t.f3 t.f3.length 0 k 0 (by omega) h8 (by omega)
      rw [List.drop_zero] at this
      simpa using this
  unfold ceiling_Task_valid.f vldT
  rw [between_eq]
  simp only [Option.bind_some]
  by_cases h1 : 1 ≤ t.f0 ∧ t.f0 ≤ 1000
  · rw [if_pos (decide_eq_true h1), between_eq]
    simp only [Option.bind_some]
    by_cases h2 : 1 ≤ t.f1 ∧ t.f1 ≤ 1000
    · rw [if_pos (decide_eq_true h2), between_eq]
      simp only [Option.bind_some]
      by_cases h3 : 1 ≤ t.f2 ∧ t.f2 ≤ t.f1
      · rw [if_pos (decide_eq_true h3)]
        by_cases h4 : t.f3.length ≤ 8
        · rw [decide_eq_false (show ¬ (t.f3.length : Int) > 8 by omega), hj false (fun _ => h4), decide_eq_true (show 1 ≤ t.f0 ∧ t.f0 ≤ 1000 ∧ 1 ≤ t.f1 ∧ t.f1 ≤ 1000 ∧ 1 ≤ t.f2 ∧ t.f2 ≤ t.f1 ∧ t.f3.length ≤ 8 by omega)]
          rfl
        · rw [decide_eq_true (show (t.f3.length : Int) > 8 by omega), hj true (fun h => by cases h), decide_eq_false (show ¬ (1 ≤ t.f0 ∧ t.f0 ≤ 1000 ∧ 1 ≤ t.f1 ∧ t.f1 ≤ 1000 ∧ 1 ≤ t.f2 ∧ t.f2 ≤ t.f1 ∧ t.f3.length ≤ 8) by omega)]
          rfl
      · rw [if_neg (by simpa using h3), hj true (fun h => by cases h), decide_eq_false (show ¬ (1 ≤ t.f0 ∧ t.f0 ≤ 1000 ∧ 1 ≤ t.f1 ∧ t.f1 ≤ 1000 ∧ 1 ≤ t.f2 ∧ t.f2 ≤ t.f1 ∧ t.f3.length ≤ 8) by omega)]
        rfl
    · rw [if_neg (by simpa using h2), hj true (fun h => by cases h), decide_eq_false (show ¬ (1 ≤ t.f0 ∧ t.f0 ≤ 1000 ∧ 1 ≤ t.f1 ∧ t.f1 ≤ 1000 ∧ 1 ≤ t.f2 ∧ t.f2 ≤ t.f1 ∧ t.f3.length ≤ 8) by omega)]
      rfl
  · rw [if_neg (by simpa using h1), hj true (fun h => by cases h), decide_eq_false (show ¬ (1 ≤ t.f0 ∧ t.f0 ≤ 1000 ∧ 1 ≤ t.f1 ∧ t.f1 ≤ 1000 ∧ 1 ≤ t.f2 ∧ t.f2 ≤ t.f1 ∧ t.f3.length ≤ 8) by omega)]
    rfl
theorem idxBad_eq (l : List S49) : ∀ (n i : Nat) (k : Nat), i + n = l.length → n + 14 ≤ k → ∃ r, idxBad k l (i : Int) = some r ∧ (0 ≤ r ↔ (l.drop i).all vldT = false) := by
  intro n
  induction n with
  | zero =>
    intro i k hi hk
    obtain ⟨k, rfl⟩ : ∃ m, k = m + 1 := ⟨k - 1, by omega⟩
    refine ⟨-1, by simp only [idxBad]; rw [if_neg (by omega)], ?_⟩
    rw [List.drop_of_length_le (by omega)]
    simp
  | succ n ih =>
    intro i k hi hk
    obtain ⟨k, rfl⟩ : ∃ m, k = m + 1 := ⟨k - 1, by omega⟩
    have hil : i < l.length := by omega
    simp only [idxBad]
    rw [if_pos (by omega), rd49_at l i hil, tvalid_eq (by omega)]
    simp only [Option.bind_some]
    rw [List.drop_eq_getElem_cons hil, List.all_cons]
    by_cases hv : vldT l[i] = true
    · rw [if_pos hv, hv, Bool.true_and]
      exact ih (i + 1) k (by omega) (by omega)
    · rw [if_neg hv]
      have : vldT l[i] = false := by simpa using hv
      rw [this, Bool.false_and]
      exact ⟨i, rfl, by simp⟩
theorem cvalid_eq {k : Nat} (hk : 40 ≤ k) (l : List S49) : ceiling_Valid.f k l = some (vld l) := by
  unfold ceiling_Valid.f vld
  by_cases h : (l.length : Int) ≤ 20
  · rw [if_pos h, decide_eq_true (show l.length ≤ 20 by omega), Bool.true_and]
    obtain ⟨r, hr, hiff⟩ := idxBad_eq l l.length 0 k (by omega) (by omega)
    rw [List.drop_zero] at hiff
    have hr' : idxBad k l 0 = some r := hr
    rw [hr']
    simp only [Option.bind_some]
    congr 1
    by_cases h0 : 0 ≤ r
    · rw [decide_eq_true h0, hiff.1 h0]; rfl
    · rw [decide_eq_false h0]
      cases ha : l.all vldT with
      | true => rfl
      | false => exact absurd (hiff.2 ha) h0
  · rw [if_neg h, decide_eq_false (show ¬ l.length ≤ 20 by omega), Bool.false_and]
theorem cvalid_of {k : Nat} {l : List S49} {r : Bool} (h : ceiling_Valid.f k l = some r) : vld l = r := by
  have h1 := at_rounds (ceiling_Valid.mono l) (show k ≤ max k 40 by omega) h
  rw [cvalid_eq (by omega)] at h1
  exact Option.some.inj h1
theorem secB_obj {cost : Int} : ∀ {l : List S68} {e : Int}, secB cost e l = true → ∀ s ∈ l, 0 ≤ s.f0 ∧ s.f0 ≤ 1000 := by
  intro l
  induction l with
  | nil => intro e _ s hs; cases hs
  | cons a r ih =>
    intro e h s hs
    unfold secB at h
    rw [Bool.and_eq_true] at h
    have h1 := of_decide_eq_true h.1
    rcases List.mem_cons.1 hs with rfl | hs
    · exact ⟨h1.2.2.2.1, h1.2.2.2.2⟩
    · exact ih h.2 s hs
theorem vldT_of {t : S49} (h : vldT t = true) : 1 ≤ t.f0 ∧ t.f0 ≤ 1000 ∧ 1 ≤ t.f1 ∧ t.f1 ≤ 1000 ∧ 1 ≤ t.f2 ∧ t.f2 ≤ t.f1 ∧ t.f3.length ≤ 8 ∧ secB t.f0 0 t.f3 = true := by
  unfold vldT at h
  rw [Bool.and_eq_true] at h
  have h1 := of_decide_eq_true h.1
  exact ⟨h1.1, h1.2.1, h1.2.2.1, h1.2.2.2.1, h1.2.2.2.2.1, h1.2.2.2.2.2.1, h1.2.2.2.2.2.2, h.2⟩
theorem vld_of {l : List S49} (h : vld l = true) : l.length ≤ 20 ∧ ∀ t ∈ l, vldT t = true := by
  unfold vld at h
  rw [Bool.and_eq_true] at h
  exact ⟨of_decide_eq_true h.1, fun t ht => List.all_eq_true.1 h.2 t ht⟩
theorem rd49_mem {l : List S49} {i : Int} (h0 : 0 ≤ i) (h1 : i < l.length) : rd_T49 l i ∈ l := by
  have := rd49_at l i.toNat (by omega)
  rw [Int.toNat_of_nonneg h0] at this
  rw [this]
  exact List.getElem_mem _

end Go.Proofs.Ytcmifojplgmgkaa.P
