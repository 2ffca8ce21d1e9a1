-- written by wip/drive.py (a driver of this session's own over the kit's print.py)
import Derived.Test.YtpbogldeojnaeaaP0
import Derived.Test.YtpbogldeojnaeaaP2
namespace Go.Proofs.Ytpbogldeojnaeaa.P
open Go.RowKit Go.Proofs.YtpbogldeojnaeaaW.PrintWords Go.Proofs.YtpbogldeojnaeaaW.PrintLast Go.Proofs.YtpbogldeojnaeaaW.PrintMore
attribute [local go_sem] max2_int min2_int max_two min_two max_three min_three max_four min_four   -- for this text's walks alone
set_option linter.unusedVariables false
set_option linter.unusedSimpArgs false

-- PLUG
/-! ### pfair_Group (function 17): by hand: it hands a closure to sort.Search -/
def grpAny : Nat → ByteArray → Int → Int → Int → Int → Int → Option Bool
  | 0, _, _, _, _, _, _ => none
  | k + 1, b, c, p, d, hi, j => if j ≤ hi then ((pfair_ends.f k b c p j).bind fun e => (if e ≥ d then some true else grpAny k b c p d hi (j + 1))) else some false

set_option maxHeartbeats 8000000 in
set_option maxRecDepth 100000 in
theorem grpAny.calls (k : Nat) (b : ByteArray) (c p d x i : Int) (gi gt gw : Nat) (r : Bool) (w : World) (h : grpAny k b c p d (x + i) x = some r) (h0 : 0 ≤ x) (h1 : 0 ≤ i) (h2 : x + i ≤ 2000)
    (hi : w.cell? ⟨gi, 0, none⟩ = some (.int .i64 x)) (ht0 : w.cell? ⟨gt, 0, none⟩ = some (.string b)) (ht1 : w.cell? ⟨gt, 1, none⟩ = some (.int .i64 c)) (ht2 : w.cell? ⟨gt, 2, none⟩ = some (.int .i64 p))
    (hw : w.cell? ⟨gw, 2, none⟩ = some (.int .i64 d)) :
    Calls Try.prog 29 (#[.int .i64 i] ++ #[.pointer (some ⟨gi, 0, none⟩), .pointer (some ⟨gt, 0, none⟩), .pointer (some ⟨gw, 0, none⟩)]) w fun e w' => e = .returned (.bool r) ∧ Below w.heap.size w w' := by
  have hu23 := Try.underlying23
  have hu26 := Try.underlying26
  have HB := Aside0.mk (Below.refl w.heap.size w)
  have HI := Aside0.mk hi
  have HT0 := Aside0.mk ht0
  have HT1 := Aside0.mk ht1
  have HT2 := Aside0.mk ht2
  have HW := Aside0.mk hw
  have HX := Aside0.mk h2
  have H' := Aside0.mk h
  clear h ht0 ht1 ht2 hw
  go_enter Try.func29, Try.ntmps29
  go_wp2
  clear hi
  go_loopg [6] k (fun kq v6 w' => ∃ (j : Int), v6 = .int .i64 j ∧ x ≤ j ∧ j ≤ x + i + 1 ∧ Aside0 (grpAny kq b c p d (x + i) j = some r) ∧ Aside0 (kq ≤ k) ∧ Aside0 (Below w.heap.size w w'))
  case atStart => exact ⟨x, rfl, by omega, by omega, H', ⟨Nat.le_refl _⟩, HB⟩
  case round =>
    clear H' HB
    obtain ⟨j, rfl, hj0, hj1, HA, HK1, HB⟩ := hrel
    cases gk with
    | zero => exact absurd HA.out (by simp [grpAny])
    | succ k1 =>
      have H := HA.out
      clear HA
      simp only [grpAny] at H
      have hi := pw_cell_below HB.out HI.out
      have ht0 := pw_cell_below HB.out HT0.out
      have ht1 := pw_cell_below HB.out HT1.out
      have ht2 := pw_cell_below HB.out HT2.out
      have hw := pw_cell_below HB.out HW.out
      by_cases hc : j ≤ x + i
      · rw [if_pos hc] at H
        replace H := Option.bind_eq_some_iff.mp H
        obtain ⟨e, A0, H⟩ := H
        have AE := Aside0.mk A0
        have HH := Aside0.mk H
        clear A0 H
        go_wp2
        go_region_held3 (fun w' => w'.cell? ⟨gt, 0, none⟩ = some (.string b) ∧ w'.cell? ⟨gt, 1, none⟩ = some (.int .i64 c) ∧ w'.cell? ⟨gt, 2, none⟩ = some (.int .i64 p) ∧ w'.cell? ⟨gw, 2, none⟩ = some (.int .i64 d) ∧ Below w.heap.size w w')
          (first | exact ⟨ht0, ht1, ht2, hw, below_drew HB.out⟩ | assumption | (have hb := ‹Below _ _ _›; obtain ⟨s0, s1, s2, s3, s4⟩ := ‹_ ∧ _ ∧ _ ∧ _ ∧ Below w.heap.size w _›; exact ⟨pw_cell_below hb s0, pw_cell_below hb s1, pw_cell_below hb s2, pw_cell_below hb s3, below_step s4 hb⟩))
          (first | (go_at_call 30; refine (pfair_ends.calls k1 b c p j e _ AE.out).mono ?_; rintro e' w1 ⟨rfl, hb1⟩))
        all_goals
          have hS := ‹_ ∧ _ ∧ _ ∧ _ ∧ Below w.heap.size w _›
          have HB1 := Aside0.mk hS.2.2.2.2
          clear hS
          by_cases he : e ≥ d
          · have H := HH.out
            rw [if_pos he] at H
            obtain rfl := Option.some.inj H
            clear H HH
            go_wp2
            go_ret
            exact ⟨rfl, HB1.out⟩
          · have H := HH.out
            rw [if_neg he] at H
            have H1 := Aside0.mk H
            clear H HH
            go_wp2
            go_roundg k1
            case measure => omega
            case rel => exact ⟨j + 1, by go_num, by omega, by omega, H1, ⟨by have := HK1.out; omega⟩, HB1⟩
      · rw [if_neg hc] at H
        obtain rfl := Option.some.inj H
        clear H
        go_wp2
        go_ret
        exact ⟨rfl, HB.out⟩

def grpSearch : Nat → ByteArray → Int → Int → Int → Int → Int → Int → Option Int
  | 0, _, _, _, _, _, _, _ => none
  | k + 1, b, c, p, d, x, i, j => if i < j then ((grpAny k b c p d (x + (i + j) / 2) x).bind fun r => (if r = true then grpSearch k b c p d x i ((i + j) / 2) else grpSearch k b c p d x ((i + j) / 2 + 1) j)) else some i

set_option maxHeartbeats 8000000 in
set_option maxRecDepth 100000 in
theorem grpSearch.calls (k : Nat) (b : ByteArray) (c p d x n : Int) (gi gt gw : Nat) (r : Int) (w : World) (h : grpSearch k b c p d x 0 n = some r) (h0 : 0 ≤ x) (h1 : 0 ≤ n) (h2 : x + n ≤ 2000)
    (hi : w.cell? ⟨gi, 0, none⟩ = some (.int .i64 x)) (ht0 : w.cell? ⟨gt, 0, none⟩ = some (.string b)) (ht1 : w.cell? ⟨gt, 1, none⟩ = some (.int .i64 c)) (ht2 : w.cell? ⟨gt, 2, none⟩ = some (.int .i64 p))
    (hw : w.cell? ⟨gw, 2, none⟩ = some (.int .i64 d)) :
    Calls Try.prog 28 #[.int .i64 n, .func (.func 29) #[] #[.pointer (some ⟨gi, 0, none⟩), .pointer (some ⟨gt, 0, none⟩), .pointer (some ⟨gw, 0, none⟩)]] w fun e w' => e = .returned (.int .i64 r) ∧ Below w.heap.size w w' := by
  have HB := Aside0.mk (Below.refl w.heap.size w)
  have HI := Aside0.mk hi
  have HT0 := Aside0.mk ht0
  have HT1 := Aside0.mk ht1
  have HT2 := Aside0.mk ht2
  have HW := Aside0.mk hw
  have H' := Aside0.mk h
  clear h ht0 ht1 ht2 hw hi
  go_enter Try.func28, Try.ntmps28
  go_wp2
  go_loopg [5, 6] k (fun kq v5 v6 w' => ∃ (i j : Int), v5 = .int .i64 i ∧ v6 = .int .i64 j ∧ 0 ≤ i ∧ i ≤ j ∧ j ≤ n ∧ Aside0 (grpSearch kq b c p d x i j = some r) ∧ Aside0 (kq ≤ k) ∧ Aside0 (Below w.heap.size w w'))
  case atStart => exact ⟨0, n, rfl, rfl, by omega, by omega, by omega, H', ⟨Nat.le_refl _⟩, HB⟩
  case round =>
    clear H' HB
    obtain ⟨i, j, rfl, rfl, hi0, hij, hjn, HA, HK1, HB⟩ := hrel
    cases gk with
    | zero => exact absurd HA.out (by simp [grpSearch])
    | succ k1 =>
      have H := HA.out
      clear HA
      simp only [grpSearch] at H
      have hi := pw_cell_below HB.out HI.out
      have ht0 := pw_cell_below HB.out HT0.out
      have ht1 := pw_cell_below HB.out HT1.out
      have ht2 := pw_cell_below HB.out HT2.out
      have hw := pw_cell_below HB.out HW.out
      by_cases hc : i < j
      · rw [if_pos hc] at H
        replace H := Option.bind_eq_some_iff.mp H
        obtain ⟨e, A0, H⟩ := H
        have AE := Aside0.mk A0
        have HH := Aside0.mk H
        clear A0 H
        go_wp2_with fail
        refine (grpAny.calls k1 b c p d x ((i + j) / 2) gi gt gw e wr AE.out h0 (by omega) (by omega) hi ht0 ht1 ht2 hw).mono ?_
        rintro e' w1 ⟨rfl, hb⟩
        have HB1 := Aside0.mk (below_step HB.out hb)
        clear hb hi ht0 ht1 ht2 hw
        by_cases he : e = true
        · subst he
          have H := HH.out
          rw [if_pos rfl] at H
          have H1 := Aside0.mk H
          clear H HH
          go_wp2
          go_roundg k1
          case measure => omega
          case rel => exact ⟨i, (i + j) / 2, rfl, rfl, by omega, by omega, by omega, H1, ⟨by have := HK1.out; omega⟩, HB1⟩
        · obtain rfl : e = false := by simpa using he
          have H := HH.out
          rw [if_neg (by simp)] at H
          have H1 := Aside0.mk H
          clear H HH
          go_wp2
          go_roundg k1
          case measure => omega
          case rel => exact ⟨(i + j) / 2 + 1, j, by go_num, rfl, by omega, by omega, by omega, H1, ⟨by have := HK1.out; omega⟩, HB1⟩
      · rw [if_neg hc] at H
        obtain rfl := Option.some.inj H
        clear H
        go_wp2
        go_ret
        exact ⟨rfl, HB.out⟩

def pfair_Group.f (k : Nat) (a0_0 : ByteArray) (a0_1 : Int) (a0_2 : Int) (a1 : Int) : Option (Int) := (pfair_Window.f k a0_0 a0_1 a0_2 a1).bind fun bt => (if bt.2.2.2 = 0 then ((pfair_Heavy.f k a0_0 a0_1 a0_2).bind fun hv => (if hv = true then (if 1 ≤ a1 ∧ a1 ≤ a0_1 ∧ a0_1 ≤ 1000 then ((grpSearch k a0_0 a0_1 a0_2 bt.2.2.1 a1 0 (a0_1 - a1)).bind fun s => if 0 ≤ s ∧ s ≤ 1000 then pfair_ends.f k a0_0 a0_1 a0_2 (a1 + s) else none) else none) else some 0)) else some 0)
theorem grpAny.mono : ∀ k b c p d hi j, LeO (grpAny k b c p d hi j) (grpAny (k + 1) b c p d hi j)
  | 0 => fun _ _ _ _ _ _ r h => by simp [grpAny] at h
  | k + 1 => fun b c p d hi j => by
    have ih := grpAny.mono k
    unfold grpAny
    refine LeO.ite (LeO.bind (pfair_ends.mono _ _ _ _ _) (fun _ => LeO.ite (LeO.refl _) (ih _ _ _ _ _ _))) (LeO.refl _)
theorem grpSearch.mono : ∀ k b c p d x i j, LeO (grpSearch k b c p d x i j) (grpSearch (k + 1) b c p d x i j)
  | 0 => fun _ _ _ _ _ _ _ r h => by simp [grpSearch] at h
  | k + 1 => fun b c p d x i j => by
    have ih := grpSearch.mono k
    unfold grpSearch
    refine LeO.ite (LeO.bind (grpAny.mono _ _ _ _ _ _ _) (fun _ => LeO.ite (ih _ _ _ _ _ _ _) (ih _ _ _ _ _ _ _))) (LeO.refl _)
theorem pfair_Group.mono : ∀ a0 a1 a2 a3 k, LeO (pfair_Group.f k a0 a1 a2 a3) (pfair_Group.f (k + 1) a0 a1 a2 a3) := by
  intro a0 a1 a2 a3 k
  unfold pfair_Group.f
  exact LeO.bind (pfair_Window.mono _ _ _ _ _) (fun _ => LeO.ite (LeO.bind (pfair_Heavy.mono _ _ _ _) (fun _ => LeO.ite (LeO.ite (LeO.bind (grpSearch.mono _ _ _ _ _ _ _ _) (fun _ => LeO.ite (pfair_ends.mono _ _ _ _ _) (LeO.refl _))) (LeO.refl _)) (LeO.refl _))) (LeO.refl _))
set_option maxHeartbeats 8000000 in
set_option maxRecDepth 100000 in
theorem pfair_Group.calls (k : Nat) (a0_0 : ByteArray) (a0_1 : Int) (a0_2 : Int) (a1 : Int) (r : Int) (w : World) (h : pfair_Group.f k a0_0 a0_1 a0_2 a1 = some r) :
    Calls Try.prog 17 #[.agg #[.string a0_0, .int .i64 a0_1, .int .i64 a0_2], .int .i64 a1] w fun e w' => e = .returned (.int .i64 r) ∧ Below w.heap.size w w' := by
  have hu23 := Try.underlying23
  have hu26 := Try.underlying26
  have H : ((pfair_Window.f k a0_0 a0_1 a0_2 a1).bind fun bt => (if bt.2.2.2 = 0 then ((pfair_Heavy.f k a0_0 a0_1 a0_2).bind fun hv => (if hv = true then (if 1 ≤ a1 ∧ a1 ≤ a0_1 ∧ a0_1 ≤ 1000 then ((grpSearch k a0_0 a0_1 a0_2 bt.2.2.1 a1 0 (a0_1 - a1)).bind fun s => if 0 ≤ s ∧ s ≤ 1000 then pfair_ends.f k a0_0 a0_1 a0_2 (a1 + s) else none) else none) else some 0)) else some 0)) = some r := h
  clear h
  replace H := Option.bind_eq_some_iff.mp H
  obtain ⟨⟨v0, v1, v2, v3⟩, A0, H⟩ := H
  have AW := Aside0.mk A0
  clear A0
  dsimp only at H
  by_cases h3 : v3 = 0
  · subst h3
    rw [if_pos rfl] at H
    replace H := Option.bind_eq_some_iff.mp H
    obtain ⟨hv, A1, H⟩ := H
    have AH := Aside0.mk A1
    clear A1
    by_cases hh : hv = true
    · subst hh
      rw [if_pos rfl] at H
      by_cases hb : 1 ≤ a1 ∧ a1 ≤ a0_1 ∧ a0_1 ≤ 1000
      · rw [if_pos hb] at H
        replace H := Option.bind_eq_some_iff.mp H
        obtain ⟨s, A2, H⟩ := H
        have AS := Aside0.mk A2
        clear A2
        by_cases hs : 0 ≤ s ∧ s ≤ 1000
        · rw [if_pos hs] at H
          have AE := Aside0.mk H
          clear H
          obtain ⟨hb0, hb1, hb2⟩ := hb
          obtain ⟨hs0, hs1⟩ := hs
          go_enter Try.func17, Try.ntmps17
          go_wp2_with fail
          refine (pfair_Window.calls k a0_0 a0_1 a0_2 a1 v0 v1 v2 0 _ AW.out).mono ?_
          rintro e' w1 ⟨rfl, hB1⟩
          obtain ⟨W0, hW0⟩ : ∃ W0, W0 = (w.alloc (.cells #[.string a0_0, .int .i64 a0_1, .int .i64 a0_2] 23)).alloc (.cells #[.int .i64 a1] 3) := ⟨_, rfl⟩
          have hc0 : W0.cell? ⟨w.heap.size, 0, none⟩ = some (.string a0_0) := by rw [hW0]; simp [go_sem]
          have hc1 : W0.cell? ⟨w.heap.size, 1, none⟩ = some (.int .i64 a0_1) := by rw [hW0]; simp [go_sem]
          have hc2 : W0.cell? ⟨w.heap.size, 2, none⟩ = some (.int .i64 a0_2) := by rw [hW0]; simp [go_sem]
          have hc3 : W0.cell? ⟨w.heap.size + 1, 0, none⟩ = some (.int .i64 a1) := by rw [hW0]; simp [go_sem]
          rw [← hW0] at hB1
          have hBW : Below w.heap.size w W0 := by rw [hW0]; exact ((Below.refl _ w).alloc (Nat.le_refl _) _).alloc (by simp) _
          replace hc0 := pw_cell_below hB1 hc0
          replace hc1 := pw_cell_below hB1 hc1
          replace hc2 := pw_cell_below hB1 hc2
          replace hc3 := pw_cell_below hB1 hc3
          have HB := Aside0.mk (below_step hBW hB1)
          have hz : w.heap.size + 1 < w1.heap.size := by have := hB1.size; rw [hW0] at this; simp at this; omega
          have hz2 : w.heap.size < w1.heap.size := by omega
          clear hB1 hBW hW0
          go_wp2_with fail
          refine (pfair_Heavy.calls k a0_0 a0_1 a0_2 true _ AH.out).mono ?_
          rintro e' w2 ⟨rfl, hB2⟩
          obtain ⟨W1, hW1⟩ : ∃ W1, W1 = w1.alloc (.cells #[.int .i64 v0, .int .i64 v1, .int .i64 v2] 26) := ⟨_, rfl⟩
          have hd2 : W1.cell? ⟨w1.heap.size, 2, none⟩ = some (.int .i64 v2) := by rw [hW1]; simp [go_sem]
          have hb1' : Below w1.heap.size w1 W1 := by rw [hW1]; exact (Below.refl _ w1).alloc (Nat.le_refl _) _
          rw [← hW1] at hB2
          replace hc0 := pw_cell_below hB2 (pw_cell_below hb1' hc0)
          replace hc1 := pw_cell_below hB2 (pw_cell_below hb1' hc1)
          replace hc2 := pw_cell_below hB2 (pw_cell_below hb1' hc2)
          replace hc3 := pw_cell_below hB2 (pw_cell_below hb1' hc3)
          replace hd2 := pw_cell_below hB2 hd2
          have HB' := Aside0.mk (below_step (below_step HB.out hb1') hB2)
          clear hB2 hb1' hW1 HB hz hz2
          go_wp2
          have hp0 : Aside0 (0 ≤ a1) := ⟨by omega⟩
          have hp1 : Aside0 (0 ≤ a0_1 - a1) := ⟨by omega⟩
          have hp2 : Aside0 (a1 + (a0_1 - a1) ≤ 2000) := ⟨by omega⟩
          have hq1 : IntKind.i64.wrap (a0_1 - a1) = a0_1 - a1 := IntWalk.i64_in _ (by omega)
          have hq2 : IntKind.i64.wrap (a1 + s) = a1 + s := IntWalk.i64_in _ (by omega)
          go_region_held3 (fun w' => w'.cell? ⟨w.heap.size, 0, none⟩ = some (.string a0_0) ∧ w'.cell? ⟨w.heap.size, 1, none⟩ = some (.int .i64 a0_1) ∧ w'.cell? ⟨w.heap.size, 2, none⟩ = some (.int .i64 a0_2) ∧ w'.cell? ⟨w.heap.size + 1, 0, none⟩ = some (.int .i64 a1) ∧ w'.cell? ⟨w1.heap.size, 2, none⟩ = some (.int .i64 v2) ∧ Below w.heap.size w w')
            (first | exact ⟨hc0, hc1, hc2, hc3, hd2, below_drew HB'.out⟩ | assumption | (have hb := ‹Below _ _ _›; obtain ⟨s0, s1, s2, s3, s4, s5⟩ := ‹_ ∧ _ ∧ _ ∧ _ ∧ _ ∧ Below w.heap.size w _›; exact ⟨pw_cell_below hb s0, pw_cell_below hb s1, pw_cell_below hb s2, pw_cell_below hb s3, pw_cell_below hb s4, below_step s5 hb⟩))
            (first | (go_at_call 28; have hS_ := ‹_ ∧ _ ∧ _ ∧ _ ∧ _ ∧ Below w.heap.size w _›; refine (grpSearch.calls k a0_0 a0_1 a0_2 v2 a1 (a0_1 - a1) (w.heap.size + 1) w.heap.size w1.heap.size s _ AS.out hp0.out hp1.out hp2.out hS_.2.2.2.1 hS_.1 hS_.2.1 hS_.2.2.1 hS_.2.2.2.2.1).mono ?_; rintro e' w3 ⟨rfl, hb3⟩))
          all_goals
            have hS := ‹_ ∧ _ ∧ _ ∧ _ ∧ _ ∧ Below w.heap.size w _›
            obtain ⟨s0, s1, s2, s3, s4, s5⟩ := hS
            have HB3 := Aside0.mk s5
            clear s5 s3 s4
            go_wp2_with fail
            refine (pfair_ends.calls k a0_0 a0_1 a0_2 (a1 + s) r _ AE.out).mono ?_
            rintro e' w4 ⟨rfl, hb4⟩
            have HB4 := Aside0.mk (below_step HB3.out hb4)
            clear hb4
            go_wp2
            go_ret
            exact ⟨rfl, HB4.out⟩
        · rw [if_neg hs] at H; cases H
      · rw [if_neg hb] at H; cases H
    · rw [if_neg hh] at H
      obtain rfl := Option.some.inj H
      obtain rfl : hv = false := by simpa using hh
      clear H hh
      go_enter Try.func17, Try.ntmps17
      go_wp2_with fail
      refine (pfair_Window.calls k a0_0 a0_1 a0_2 a1 v0 v1 v2 0 _ AW.out).mono ?_
      rintro e' w1 ⟨rfl, hB1⟩
      obtain ⟨W0, hW0⟩ : ∃ W0, W0 = (w.alloc (.cells #[.string a0_0, .int .i64 a0_1, .int .i64 a0_2] 23)).alloc (.cells #[.int .i64 a1] 3) := ⟨_, rfl⟩
      have hc0 : W0.cell? ⟨w.heap.size, 0, none⟩ = some (.string a0_0) := by rw [hW0]; simp [go_sem]
      have hc1 : W0.cell? ⟨w.heap.size, 1, none⟩ = some (.int .i64 a0_1) := by rw [hW0]; simp [go_sem]
      have hc2 : W0.cell? ⟨w.heap.size, 2, none⟩ = some (.int .i64 a0_2) := by rw [hW0]; simp [go_sem]
      rw [← hW0] at hB1
      have hBW : Below w.heap.size w W0 := by rw [hW0]; exact ((Below.refl _ w).alloc (Nat.le_refl _) _).alloc (by simp) _
      replace hc0 := pw_cell_below hB1 hc0
      replace hc1 := pw_cell_below hB1 hc1
      replace hc2 := pw_cell_below hB1 hc2
      have HB := Aside0.mk (below_step hBW hB1)
      have hz : w.heap.size + 1 < w1.heap.size := by have := hB1.size; rw [hW0] at this; simp at this; omega
      have hz2 : w.heap.size < w1.heap.size := by omega
      clear hB1 hBW hW0
      go_wp2_with fail
      refine (pfair_Heavy.calls k a0_0 a0_1 a0_2 false _ AH.out).mono ?_
      rintro e' w2 ⟨rfl, hB2⟩
      have HB' := Aside0.mk (below_step (below_step HB.out ((Below.refl _ w1).alloc (Nat.le_refl _) _)) hB2)
      clear hB2
      go_wp2
      go_ret
      exact ⟨rfl, HB'.out⟩
  · rw [if_neg h3] at H
    obtain rfl := Option.some.inj H
    have h3a : (v3 == 0) = false := beq_eq_false_iff_ne.mpr h3
    have h3b : (v3 != 0) = true := bne_iff_ne.mpr h3
    clear H h3
    go_enter Try.func17, Try.ntmps17
    go_wp2_with fail
    refine (pfair_Window.calls k a0_0 a0_1 a0_2 a1 v0 v1 v2 v3 _ AW.out).mono ?_
    rintro e' w1 ⟨rfl, hB1⟩
    obtain ⟨W0, hW0⟩ : ∃ W0, W0 = (w.alloc (.cells #[.string a0_0, .int .i64 a0_1, .int .i64 a0_2] 23)).alloc (.cells #[.int .i64 a1] 3) := ⟨_, rfl⟩
    rw [← hW0] at hB1
    have hBW : Below w.heap.size w W0 := by rw [hW0]; exact ((Below.refl _ w).alloc (Nat.le_refl _) _).alloc (by simp) _
    have HB := Aside0.mk (below_alloc (below_step hBW hB1) (.cells #[.int .i64 v0, .int .i64 v1, .int .i64 v2] 26))
    clear hB1 hBW hW0
    go_wp2
    go_ret
    exact ⟨rfl, HB.out⟩

end Go.Proofs.Ytpbogldeojnaeaa.P
