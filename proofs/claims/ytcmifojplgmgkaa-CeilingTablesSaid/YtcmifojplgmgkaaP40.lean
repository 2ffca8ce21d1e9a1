-- written by wip/drive.py (a driver of this session's own over the kit's print.py)
import Derived.Maps.OwnOps
import Derived.Maps.OwnSet
import Derived.Maps.Views
import Derived.Test.YtcmifojplgmgkaaP0
import Derived.Test.YtcmifojplgmgkaaP3
import Derived.Test.YtcmifojplgmgkaaP5
import Derived.Test.YtcmifojplgmgkaaP7
import Derived.Test.YtcmifojplgmgkaaP12
import Derived.Test.YtcmifojplgmgkaaP18
import Derived.Test.YtcmifojplgmgkaaP28
import Derived.Test.YtcmifojplgmgkaaP30
import Derived.Test.YtcmifojplgmgkaaP37
import Derived.Test.YtcmifojplgmgkaaP39
namespace Go.Proofs.Ytcmifojplgmgkaa.P
open Go.RowKit Go.Proofs.YtcmifojplgmgkaaW.PrintWords Go.Proofs.YtcmifojplgmgkaaW.PrintLast Go.Proofs.YtcmifojplgmgkaaW.PrintMore
attribute [local go_sem] max2_int min2_int max_two min_two max_three min_three max_four min_four   -- for this text's walks alone
set_option linter.unusedVariables false
set_option linter.unusedSimpArgs false

-- PLUG
/-! ### ontimelaw43_CeilingTables (function 17): by hand: maps; one way -/
def putB (D : DataW Unit) (s : S68) : DataW Unit := D.put (.int .i64 s.f0) (.lit (.bool true))
/-- The objects of the tasks. -/
def manyL (l : List S49) : DataW Unit := l.foldl (fun D t => t.f3.foldl putB D) (.map [])
def tabD (k : Nat) (l : List S49) (M : List S93) : Bool := vld l && l.all (fun t => t.f3.all fun s => ontimeref43_Ceiling.f k M s.f0 == some (ceilF l s.f0) && Maps.has (ceilL (H := Unit) l l.length) (.int .i64 s.f0)) && decide (Maps.size (ceilL (H := Unit) l l.length) = Maps.size (manyL l))
def tabOut (l : List S49) (a d : Int) : Bool := decide (a < 0 ∨ (l.length : Int) ≤ a ∨ d < 0 ∨ (rd_T49 l a).f0 < d)
def ontimelaw43_CeilingTables.f (k : Nat) (l0 : List S49) (a1 a2 : Int) : Option Bool :=
  (ontimelaw43_awake.f k).bind fun t => if t = true then (if l0.length ≤ 40 then (if l0.all (fun t => decide (t.f3.length ≤ 16)) = true then
    ((ontimelaw43_plain.f k l0).bind fun M => (ceiling_Valid.f k l0).bind fun v => (ontimeref43_Valid.f k M).bind fun rv => if rv = v then
      (if v = true then (if tabD k l0 M = true then (ceiling_Active.f k l0 a1 a2).bind fun x => if tabOut l0 a1 a2 = true then (if x = -1 then some true else none) else (ontimeref43_Active.f k M a1 a2).bind fun y => if x = y then some true else none else none)
       else (ceiling_Active.f k l0 a1 a2).bind fun x => if x = -1 then some true else none) else none) else some true) else some true) else none
theorem tab_map3 : Try.prog.underlying 74 = some (.map 3 4) := by kernel_rfl
set_option maxHeartbeats 8000000 in
set_option maxRecDepth 100000 in
theorem tab_great (k : Nat) (A0 : Option Addr) (c0 : Nat) (l0 : List (S49)) (a1 a2 : Int) (w : World) (hr0 : Kd.C k49 w A0 l0.length l0) (hc0 : l0.length ≤ c0) (h1 : ontimelaw43_awake.f k = some true) (h2 : ¬ l0.length ≤ 40) :
    Calls Try.prog 17 #[.slice A0 l0.length c0, .int .i64 a1, .int .i64 a2] w fun e w' => e = .returned (.bool true) ∧ Below w.heap.size w w' := by
  have A1 := Aside0.mk h1
  have hg : ¬ ((l0.length : Int) ≤ 40) := by omega
  clear h1
  go_enter Try.func17, Try.ntmps17
  go_wp2_with fail
  refine (ontimelaw43_awake.calls k true w A1.out).mono ?_
  rintro e w1 ⟨rfl, hb1⟩
  have HB1 := Aside0.mk hb1
  clear hb1
  go_wp2_with fail
  refine (ontimelaw43_awake.calls k true w1 A1.out).mono ?_
  rintro e w2 ⟨rfl, hb2⟩
  have HB2 := Aside0.mk (below_step HB1.out hb2)
  clear hb2
  go_wp2
  go_ret
  exact ⟨rfl, HB2.out⟩
set_option maxHeartbeats 8000000 in
set_option maxRecDepth 100000 in
theorem tab_wide (k : Nat) (A0 : Option Addr) (c0 : Nat) (l0 : List (S49)) (a1 a2 : Int) (w : World) (hr0 : Kd.C k49 w A0 l0.length l0) (hc0 : l0.length ≤ c0) (h1 : ontimelaw43_awake.f k = some true) (h2 : l0.length ≤ 40) (h3 : ¬ ∀ t ∈ l0, t.f3.length ≤ 16) :
    Calls Try.prog 17 #[.slice A0 l0.length c0, .int .i64 a1, .int .i64 a2] w fun e w' => e = .returned (.bool true) ∧ Below w.heap.size w w' := by
  have hu49 := Try.underlying49
  have hu22 := Try.underlying22
  have A1 := Aside0.mk h1
  have HR := Aside0.mk hr0
  have HN := Aside0.mk h3
  clear h1 hr0 h3
  go_enter Try.func17, Try.ntmps17
  go_wp2_with fail
  refine (ontimelaw43_awake.calls k true w A1.out).mono ?_
  rintro e w1 ⟨rfl, hb1⟩
  have HB1 := Aside0.mk hb1
  clear hb1
  obtain ⟨wo, rfl⟩ : ∃ wo : World, wo = w1 := ⟨_, rfl⟩
  go_wp2_with fail
  go_loopw [28] (fun v28 wr => ∃ (i : Int), v28 = .int .i64 i ∧ 0 ≤ i ∧ i ≤ l0.length ∧ Aside0 (∀ t ∈ l0.take i.toNat, t.f3.length ≤ 16) ∧ Aside0 (Below w.heap.size w wr)) (fun v _ => l0.length - (intOf v).toNat)
  case atStart => exact ⟨0, rfl, by omega, by omega, ⟨fun t ht => by cases ht⟩, HB1⟩
  case round =>
    obtain ⟨i, rfl, i0, i1, HT, HB⟩ := hrel
    by_cases hi : i < l0.length
    · obtain ⟨ad, A3, c3, hA, x0, x1, x2, x3, x4, x5⟩ := at_T49 (Kd.C_below HR.out HB.out) i i0 hi
      subst hA
      have hsB := HB.out.size
      have htk := take49 i0 hi
      generalize rd_T49 l0 i = t at x0 x1 x2 x3 htk
      have HTK := Aside0.mk htk
      clear x4 x5 htk
      by_cases h16 : (t.f3.length : Int) > 16
      · go_wp2
        go_ret
        exact ⟨rfl, HB.out.alloc hsB _⟩
      · go_wp2_with fail
        refine ⟨⟨i + 1, rfl, by omega, by omega, ⟨?_⟩, ⟨HB.out.alloc hsB _⟩⟩, by simp [intOf]; omega⟩
        rw [HTK.out]
        intro y hy
        rcases List.mem_append.1 hy with hy | hy
        · exact HT.out y hy
        · rw [List.mem_singleton.1 hy]; omega
    · exfalso
      have hie : i.toNat = l0.length := by omega
      have h := HT.out
      rw [hie, List.take_length] at h
      exact HN.out h
theorem drawn_below {w w' : World} (h : Drawn0 w w') : Below w.heap.size w w' := by
  obtain ⟨n, rfl⟩ := h
  exact pw_below_drewN (Below.refl _ _) n
/-- Of all worlds behind the first steps. -/
structure TW (w4 wr : World) (mc mm : Nat) (l : List S49) (n : Nat) (D : DataW Unit) : Prop where
  b : Below w4.heap.size w4 wr
  c : wr.ownsMap Try.prog 3 (plainElem (H := Unit) Try.prog 3) mc (8 * l.length) (ceilL l l.length)
  m : wr.ownsMap Try.prog 3 (plainElem (H := Unit) Try.prog 4) mm n D
set_option maxHeartbeats 8000000 in
set_option maxRecDepth 100000 in
theorem tab_main (k : Nat) (A0 : Option Addr) (c0 : Nat) (l0 : List (S49)) (a1 a2 : Int) (M : List S93) (v : Bool) (x : Int) (w : World) (hr0 : Kd.C k49 w A0 l0.length l0) (hc0 : l0.length ≤ c0) (h1 : ontimelaw43_awake.f k = some true) (h2 : l0.length ≤ 40) (h3 : ∀ t ∈ l0, t.f3.length ≤ 16)
    (h4 : ontimelaw43_plain.f k l0 = some M) (h5 : ceiling_Valid.f k l0 = some v) (h6 : ontimeref43_Valid.f k M = some v) (h7 : ceiling_Active.f k l0 a1 a2 = some x)
    (h8 : v = false → x = -1) (h9 : v = true → tabD k l0 M = true ∧ (if tabOut l0 a1 a2 = true then x = -1 else ontimeref43_Active.f k M a1 a2 = some x)) :
    Calls Try.prog 17 #[.slice A0 l0.length c0, .int .i64 a1, .int .i64 a2] w fun e w' => e = .returned (.bool true) ∧ Below w.heap.size w w' := by
  have hu49 := Try.underlying49
  have hu68 := Try.underlying68
  have hu22 := Try.underlying22
  have hmm := @run_makeMap Try.prog
  have A1 := Aside0.mk h1
  have A4 := Aside0.mk h4
  have A5 := Aside0.mk h5
  have A6 := Aside0.mk h6
  have A7 := Aside0.mk h7
  have A8 := Aside0.mk h8
  have A9 := Aside0.mk h9
  have HR := Aside0.mk hr0
  have HC := Aside0.mk hc0
  have H3 := Aside0.mk h3
  clear h1 h3 h4 h5 h6 h7 h8 h9 hr0 hc0
  go_enter Try.func17, Try.ntmps17
  go_wp2_with fail
  refine (ontimelaw43_awake.calls k true w A1.out).mono ?_
  rintro e w1 ⟨rfl, hb1⟩
  have HB1 := Aside0.mk hb1
  clear hb1
  obtain ⟨wo, rfl⟩ : ∃ wo : World, wo = w1 := ⟨_, rfl⟩
  go_wp2_with fail
  go_loopw [28] (fun v28 wr => ∃ (i : Int), v28 = .int .i64 i ∧ 0 ≤ i ∧ i ≤ l0.length ∧ Aside0 (Below w.heap.size w wr)) (fun v _ => l0.length - (intOf v).toNat)
  case atStart => exact ⟨0, rfl, by omega, by omega, HB1⟩
  case round =>
    clear HB1
    obtain ⟨i, rfl, i0, i1, HB⟩ := hrel
    by_cases hi : i < l0.length
    · obtain ⟨ad, A3, c3, hA, x0, x1, x2, x3, x4, x5⟩ := at_T49 (Kd.C_below HR.out HB.out) i i0 hi
      subst hA
      have hsB := HB.out.size
      have h16 := H3.out _ (rd49_mem i0 hi)
      generalize rd_T49 l0 i = t at x0 x1 x2 x3 h16
      clear x4 x5
      go_wp2_with fail
      exact ⟨⟨i + 1, rfl, by omega, by omega, ⟨HB.out.alloc hsB _⟩⟩, by simp [intOf]; omega⟩
    · clear i0 i1
      go_wp2_with fail
      refine (ontimelaw43_plain.calls k _ _ l0 M wr (Kd.C_below HR.out HB.out) HC.out A4.out).mono ?_
      rintro e w2 ⟨vm, rfl, hm, hb2⟩
      obtain ⟨Am, cm, rfl, hcm, hcM⟩ := Kd.S_reads hm
      have HM := Aside0.mk hcM
      have HCM := Aside0.mk hcm
      have HB2 := Aside0.mk (below_step HB.out hb2)
      clear hb2 hm hcM hcm HB
      cases v with
      | false =>
        have hv := cvalid_of A5.out
        have hx := A8.out rfl
        subst hx
        go_wp2_with fail
        refine (ceil_no A0 c0 l0 w2 (Kd.C_below HR.out HB2.out) HC.out hv).mono ?_
        rintro e w3 ⟨rfl, hown, hb3⟩
        have HO := Aside0.mk hown
        have HB3 := Aside0.mk (below_step HB2.out hb3)
        have HM3 := Aside0.mk (Kd.C_below HM.out hb3)
        clear hown hb3 hv
        generalize w2.heap.size = mc at HO ⊢
        go_wp2_with fail
        refine (ceiling_Valid.calls k A0 c0 l0 false w3 (Kd.C_below HR.out HB3.out) HC.out A5.out).mono ?_
        rintro e w4 ⟨rfl, hb4⟩
        have HB4 := Aside0.mk (below_step HB3.out hb4)
        have HM4 := Aside0.mk (Kd.C_below HM3.out hb4)
        have HO4 := Aside0.mk (map_below HO.out hb4)
        clear hb4
        go_wp2_with fail
        refine (ontimeref43_Valid.calls k Am cm M false w4 HM4.out HCM.out A6.out).mono ?_
        rintro e w5 ⟨rfl, hb5⟩
        have HB5 := Aside0.mk (below_step HB4.out hb5)
        have HM5 := Aside0.mk (Kd.C_below HM4.out hb5)
        have HO5 := Aside0.mk (map_below HO4.out hb5)
        clear hb5
        go_wp2_with fail
        refine (ontimeref43_Valid.calls k Am cm M false w5 HM5.out HCM.out A6.out).mono ?_
        rintro e w6 ⟨rfl, hb6⟩
        have HB6 := Aside0.mk (below_step HB5.out hb6)
        have HO6 := Aside0.mk (map_below HO5.out hb6)
        clear hb6
        go_wp2_with (first
          | (at_len; refine wpList_len_own _ rfl _ 65 rfl 3 3 Try.underlying65 _ mc 0 _ rfl HO6.out ?_)
          | (go_at_call 41; refine (ceiling_Active.calls k A0 c0 l0 a1 a2 (-1) w6 (Kd.C_below HR.out HB6.out) HC.out A7.out).mono ?_; rintro e w7 ⟨rfl, hb7⟩; have HB7 := Aside0.mk (below_step HB6.out hb7); clear hb7))
        go_ret
        exact ⟨rfl, HB7.out⟩
      | true =>
        have hv := cvalid_of A5.out
        have HV := Aside0.mk hv
        obtain ⟨hD, hX⟩ := A9.out rfl
        unfold tabD at hD
        rw [Bool.and_eq_true, Bool.and_eq_true] at hD
        obtain ⟨⟨_, hD2⟩, hD3⟩ := hD
        have HD2 := Aside0.mk (fun (t : S49) (ht : t ∈ l0) (s : S68) (hs : s ∈ t.f3) => List.all_eq_true.1 (List.all_eq_true.1 hD2 t ht) s hs)
        have HD3 := Aside0.mk (of_decide_eq_true hD3)
        have HX := Aside0.mk hX
        obtain ⟨h20, hall⟩ := vld_of hv
        have HALL := Aside0.mk hall
        have HZ := Aside0.mk Try.zeroValue3
        clear hv hD2 hD3 hX hall A9
        go_wp2_with fail
        refine (ceil_yes A0 c0 l0 w2 (Kd.C_below HR.out HB2.out) HC.out HV.out).mono ?_
        rintro e w3 ⟨rfl, hown, hb3⟩
        have HO := Aside0.mk hown
        have HB3 := Aside0.mk (below_step HB2.out hb3)
        have HM3 := Aside0.mk (Kd.C_below HM.out hb3)
        clear hown hb3
        generalize w2.heap.size = mc at HO ⊢
        go_wp2_with fail
        refine (ceiling_Valid.calls k A0 c0 l0 true w3 (Kd.C_below HR.out HB3.out) HC.out A5.out).mono ?_
        rintro e w4 ⟨rfl, hb4⟩
        have HB4 := Aside0.mk (below_step HB3.out hb4)
        have HM4 := Aside0.mk (Kd.C_below HM3.out hb4)
        have HO4 := Aside0.mk (map_below HO.out hb4)
        clear hb4
        go_wp2_with fail
        refine (ontimeref43_Valid.calls k Am cm M true w4 HM4.out HCM.out A6.out).mono ?_
        rintro e w5 ⟨rfl, hb5⟩
        have HB5 := Aside0.mk (below_step HB4.out hb5)
        have HM5 := Aside0.mk (Kd.C_below HM4.out hb5)
        have HO5 := Aside0.mk (map_below HO4.out hb5)
        clear hb5
        go_wp2_with fail
        refine (ontimeref43_Valid.calls k Am cm M true w5 HM5.out HCM.out A6.out).mono ?_
        rintro e wb ⟨rfl, hb6⟩
        have HB6 := Aside0.mk (below_step HB5.out hb6)
        have HM6 := Aside0.mk (Kd.C_below HM5.out hb6)
        have HO6 := Aside0.mk (map_below HO5.out hb6)
        clear hb6 HB5 HM5 HO5 HB4 HM4 HO4 HB3 HM3 HO HB2 HM
        go_wp2_with fail
        have hTW : TW wb (wb.alloc (.map #[] 0)) mc wb.heap.size l0 0 (.map []) := ⟨(Below.refl _ _).alloc (Nat.le_refl _) _, HO6.out.alloc _, World.ownsMap_made wb Try.prog 3 (plainElem (H := Unit) Try.prog 4)⟩
        have HTW := Aside0.mk hTW
        have hmc : mc ≠ wb.heap.size := Nat.ne_of_lt HO6.out.lt
        obtain ⟨mm, hmm2⟩ : ∃ mm, mm = wb.heap.size := ⟨_, rfl⟩
        rw [← hmm2] at HTW hmc ⊢
        have HMM := Aside0.mk hmm2
        clear hTW HO6 hmm2
        go_loopw [62] (fun v62 wr => ∃ (i : Int), v62 = .int .i64 i ∧ 0 ≤ i ∧ i ≤ l0.length ∧ Aside0 (TW wb wr mc mm l0 (8 * i.toNat) ((l0.take i.toNat).foldl (fun D t => t.f3.foldl putB D) (.map [])))) (fun v _ => l0.length - (intOf v).toNat)
        case atStart => exact ⟨0, rfl, by omega, by omega, HTW⟩
        case round =>
          clear HTW
          obtain ⟨i, rfl, i0, i1, HT⟩ := hrel
          by_cases hi : i < l0.length
          · have hb := below_step HB6.out HT.out.b
            obtain ⟨ad, A3, c3, hA, x0, x1, x2, x3, x4, x5⟩ := at_T49 HR.out i i0 hi
            subst hA
            replace x0 := (hb.cell (World.block_lt_of_cell? w _ x0)).trans x0
            replace x1 := (hb.cell (World.block_lt_of_cell? w _ x1)).trans x1
            replace x2 := (hb.cell (World.block_lt_of_cell? w _ x2)).trans x2
            replace x3 := (hb.cell (World.block_lt_of_cell? w _ x3)).trans x3
            have X5 := Aside0.mk x5
            have hmemt := rd49_mem (l := l0) i0 hi
            obtain ⟨_, v2, _, _, _, _, v7, v8⟩ := vldT_of (HALL.out _ hmemt)
            have HSEC := Aside0.mk (secB_bd (Int.le_refl 0) v8)
            have HDT := Aside0.mk (HD2.out _ hmemt)
            have HTK := Aside0.mk (take49 i0 hi)
            generalize rd_T49 l0 i = t at x0 x1 x2 x3 v2 v7 HSEC X5 HTK HDT
            obtain ⟨D0, hD0⟩ : ∃ D0, D0 = (l0.take i.toNat).foldl (fun D t => t.f3.foldl putB D) (.map []) := ⟨_, rfl⟩
            have HD0 := Aside0.mk hD0
            rw [← hD0] at HT
            clear x4 x5 hb v8 hmemt hD0
            obtain ⟨wp, rfl⟩ : ∃ wp : World, wp = wr := ⟨_, rfl⟩
            go_wp2_with fail
            clear x0 x1 x2 x3
            have HT1 : Aside0 (TW wb (wp.alloc (.cells #[.int .i64 t.f0, .int .i64 t.f1, .int .i64 t.f2, .slice A3 t.f3.length c3] 49)) mc mm l0 (8 * i.toNat) D0) := ⟨⟨HT.out.b.alloc HT.out.b.size _, HT.out.c.alloc _, HT.out.m.alloc _⟩⟩
            go_loopw [69] (fun v69 wr => ∃ (s : Int), v69 = .int .i64 s ∧ 0 ≤ s ∧ s ≤ t.f3.length ∧ Aside0 (TW wb wr mc mm l0 (8 * i.toNat + s.toNat) ((t.f3.take s.toNat).foldl putB D0))) (fun v _ => t.f3.length - (intOf v).toNat)
            case atStart => exact ⟨0, rfl, by omega, by omega, HT1⟩
            case round =>
              clear HT HT1
              obtain ⟨s, rfl, s0, s1, HT⟩ := hrel
              by_cases hs : s < t.f3.length
              · have hb := below_step HB6.out HT.out.b
                obtain ⟨ad2, hA, y0, y1, y2⟩ := at_T68 X5.out s s0 hs
                subst hA
                replace y0 := (hb.cell (World.block_lt_of_cell? w _ y0)).trans y0
                replace y1 := (hb.cell (World.block_lt_of_cell? w _ y1)).trans y1
                replace y2 := (hb.cell (World.block_lt_of_cell? w _ y2)).trans y2
                obtain ⟨g0, g1, g2, g3, g4⟩ := HSEC.out _ (rd68_mem s0 hs)
                have hdt := HDT.out _ (rd68_mem s0 hs)
                rw [Bool.and_eq_true] at hdt
                have hce := beq_iff_eq.1 hdt.1
                have hhas := hdt.2
                have HTK2 := Aside0.mk (take68 s0 hs)
                generalize rd_T68 t.f3 s = sc at y0 y1 y2 g0 g1 g2 g3 g4 HTK2 hce hhas
                have HCE := Aside0.mk hce
                have hkey := Maps.keyOf_int_mk Try.underlying3 (wf64 (show -9223372036854775808 ≤ sc.f0 by omega) (by omega))
                have hown := HT.out.m.alloc (.cells #[.int .i64 sc.f0, .int .i64 sc.f1, .int .i64 sc.f2] 68)
                have hnl : 8 * i.toNat + s.toNat < maxLen := by unfold maxLen; omega
                clear hb hdt hce
                go_wp2_with (first
                  | (at_mapUpdate; refine wpList_mapUpdate_own _ rfl _ _ _ 74 rfl 3 4 (Maps.int_keyed Try.underlying3) tab_map3 _ mm (8 * i.toNat + s.toNat) _ rfl hown hnl _ _ (.int .i64 sc.f0) rfl rfl hkey (.lit (.bool true)) [] (plainElem_bool Try.underlying4 true) ?_; intro w7 hown7 hgrow7; have HT7 : Aside0 (TW wb w7 mc mm l0 (8 * i.toNat + s.toNat + 1) (putB ((t.f3.take s.toNat).foldl putB D0) sc)) := ⟨⟨(HT.out.b.alloc HT.out.b.size _).grown hgrow7 (Nat.le_trans HT.out.b.size (by simp)) (fun k hk => by injection hk with hk; rw [← hk, HMM.out]; exact Nat.le_refl _), (HT.out.c.alloc _).kept hgrow7 (fun e => hmc (by injection e)), hown7⟩⟩; have z0 : w7.cell? ⟨wr.heap.size, 0, none⟩ = some (.int .i64 sc.f0) := hgrow7.cell (World.cell?_alloc_new _ _ _ 0) (fun e => Nat.ne_of_gt HT.out.m.lt (by injection e)); have hownc := HT7.out.c; clear hown7 hgrow7)
                  | (at_lookup; refine wpList_lookup_own_ok_int _ rfl _ _ 65 rfl 3 3 .i64 (Maps.int_keyed Try.underlying3) Try.underlying65 Try.underlying3 (HZ.out _) mc (8 * l0.length) _ rfl hownc _ _ rfl hkey ?_; intro c hat hwc; have hcF : ceilF l0 sc.f0 = c := lit_int_inj ((ceilL_at l0 sc.f0).symm.trans hat))
                  | (go_at_call 42; refine (ontimeref43_Ceiling.calls k Am cm M sc.f0 (ceilF l0 sc.f0) w7 (Kd.C_below HM6.out HT7.out.b) HCM.out HCE.out).mono ?_; rintro e w8 ⟨rfl, hb8⟩))
                have hb8' : Below w7.heap.size w7 w8 := drawn_below hb8
                refine ⟨⟨s + 1, rfl, by omega, by omega, ⟨?_⟩⟩, by simp [intOf]; omega⟩
                rw [HTK2.out, List.foldl_append, show 8 * i.toNat + (s + 1).toNat = 8 * i.toNat + s.toNat + 1 by omega]
                exact ⟨below_step HT7.out.b hb8', map_below HT7.out.c hb8', map_below HT7.out.m hb8'⟩
              · obtain rfl : s = t.f3.length := by omega
                have hT := HT.out
                rw [Int.toNat_natCast, List.take_length] at hT
                go_wp2_with fail
                refine ⟨⟨i + 1, rfl, by omega, by omega, ⟨?_⟩⟩, by simp [intOf]; omega⟩
                rw [HTK.out, List.foldl_append, ← HD0.out]
                exact ⟨hT.b, hT.c, hT.m.mono (by omega)⟩
          · have hie : i.toNat = l0.length := by omega
            have hT := HT.out
            rw [hie, List.take_length] at hT
            have HT2 : Aside0 (TW wb wr mc mm l0 (8 * l0.length) (manyL l0)) := ⟨hT⟩
            have hsz : ((Maps.size (ceilL (H := Unit) l0 l0.length) : Int) != (Maps.size (manyL l0) : Int)) = false := by rw [HD3.out]; simp
            have hb := below_step HB6.out HT2.out.b
            have HBX := Aside0.mk hb
            have HMX := Aside0.mk (Kd.C_below HM6.out HT2.out.b)
            have hx := HX.out
            have AX := Aside0.mk A7.out
            clear hT HT hb hie
            by_cases c1 : a1 < 0
            · have ho : tabOut l0 a1 a2 = true := decide_eq_true (.inl c1)
              rw [if_pos ho] at hx
              subst hx
              clear ho HX
              go_wp2_with (first
                | (at_len; refine wpList_len_own _ rfl _ 65 rfl 3 3 Try.underlying65 _ mc (8 * l0.length) _ rfl HT2.out.c ?_)
                | (at_len; refine wpList_len_own _ rfl _ 74 rfl 3 4 tab_map3 _ mm (8 * l0.length) _ rfl HT2.out.m ?_)
                | (go_at_call 41; refine (ceiling_Active.calls k A0 c0 l0 a1 a2 (-1) wr (Kd.C_below HR.out HBX.out) HC.out AX.out).mono ?_; rintro e w9 ⟨rfl, hb9⟩; have HB9 := Aside0.mk (below_step HBX.out hb9); clear hb9))
              go_ret
              exact ⟨rfl, HB9.out⟩
            · by_cases c2 : (l0.length : Int) ≤ a1
              · have ho : tabOut l0 a1 a2 = true := decide_eq_true (.inr (.inl c2))
                rw [if_pos ho] at hx
                subst hx
                clear ho HX
                go_wp2_with (first
                  | (at_len; refine wpList_len_own _ rfl _ 65 rfl 3 3 Try.underlying65 _ mc (8 * l0.length) _ rfl HT2.out.c ?_)
                  | (at_len; refine wpList_len_own _ rfl _ 74 rfl 3 4 tab_map3 _ mm (8 * l0.length) _ rfl HT2.out.m ?_)
                  | (go_at_call 41; refine (ceiling_Active.calls k A0 c0 l0 a1 a2 (-1) wr (Kd.C_below HR.out HBX.out) HC.out AX.out).mono ?_; rintro e w9 ⟨rfl, hb9⟩; have HB9 := Aside0.mk (below_step HBX.out hb9); clear hb9))
                go_ret
                exact ⟨rfl, HB9.out⟩
              · by_cases c3 : a2 < 0
                · have ho : tabOut l0 a1 a2 = true := decide_eq_true (.inr (.inr (.inl c3)))
                  rw [if_pos ho] at hx
                  subst hx
                  clear ho HX
                  go_wp2_with (first
                    | (at_len; refine wpList_len_own _ rfl _ 65 rfl 3 3 Try.underlying65 _ mc (8 * l0.length) _ rfl HT2.out.c ?_)
                    | (at_len; refine wpList_len_own _ rfl _ 74 rfl 3 4 tab_map3 _ mm (8 * l0.length) _ rfl HT2.out.m ?_)
                    | (go_at_call 41; refine (ceiling_Active.calls k A0 c0 l0 a1 a2 (-1) wr (Kd.C_below HR.out HBX.out) HC.out AX.out).mono ?_; rintro e w9 ⟨rfl, hb9⟩; have HB9 := Aside0.mk (below_step HBX.out hb9); clear hb9))
                  go_ret
                  exact ⟨rfl, HB9.out⟩
                · have d1 : 0 ≤ a1 := by omega
                  have d2 : a1 < (l0.length : Int) := by omega
                  obtain ⟨ad, A3, c3', hA, x0, _, _, _, _, _⟩ := at_T49 HR.out a1 d1 d2
                  subst hA
                  replace x0 := (HBX.out.cell (World.block_lt_of_cell? w _ x0)).trans x0
                  by_cases c4 : (rd_T49 l0 a1).f0 < a2
                  · have ho : tabOut l0 a1 a2 = true := decide_eq_true (.inr (.inr (.inr c4)))
                    rw [if_pos ho] at hx
                    subst hx
                    clear ho HX
                    go_wp2_with (first
                      | (at_len; refine wpList_len_own _ rfl _ 65 rfl 3 3 Try.underlying65 _ mc (8 * l0.length) _ rfl HT2.out.c ?_)
                      | (at_len; refine wpList_len_own _ rfl _ 74 rfl 3 4 tab_map3 _ mm (8 * l0.length) _ rfl HT2.out.m ?_)
                      | (go_at_call 41; refine (ceiling_Active.calls k (some ad) c0 l0 a1 a2 (-1) wr (Kd.C_below HR.out HBX.out) HC.out AX.out).mono ?_; rintro e w9 ⟨rfl, hb9⟩; have HB9 := Aside0.mk (below_step HBX.out hb9); clear hb9))
                    go_ret
                    exact ⟨rfl, HB9.out⟩
                  · have ho : tabOut l0 a1 a2 = false := decide_eq_false (by omega)
                    rw [ho, if_neg (by simp)] at hx
                    have HXX := Aside0.mk hx
                    clear ho HX hx
                    go_wp2_with (first
                      | (at_len; refine wpList_len_own _ rfl _ 65 rfl 3 3 Try.underlying65 _ mc (8 * l0.length) _ rfl HT2.out.c ?_)
                      | (at_len; refine wpList_len_own _ rfl _ 74 rfl 3 4 tab_map3 _ mm (8 * l0.length) _ rfl HT2.out.m ?_)
                      | (go_at_call 41; refine (ceiling_Active.calls k (some ad) c0 l0 a1 a2 x wr (Kd.C_below HR.out HBX.out) HC.out AX.out).mono ?_; rintro e w9 ⟨rfl, hb9⟩; have HB9 := Aside0.mk (below_step HBX.out hb9); have HM9 := Aside0.mk (Kd.C_below HMX.out hb9); clear hb9)
                      | (go_at_call 43; refine (ontimeref43_Active.calls k Am cm M a1 a2 x w9 HM9.out HCM.out HXX.out).mono ?_; rintro e w10 ⟨rfl, hb10⟩; have HB10 := Aside0.mk (below_step HB9.out hb10); clear hb10))
                    go_ret
                    exact ⟨by simp, HB10.out⟩
theorem ontimelaw43_CeilingTables.calls (k : Nat) (A0 : Option Addr) (c0 : Nat) (l0 : List (S49)) (a1 : Int) (a2 : Int) (r : Bool) (w : World) (hr0 : Kd.C k49 w A0 l0.length l0) (hc0 : l0.length ≤ c0) (h : ontimelaw43_CeilingTables.f k l0 a1 a2 = some r) :
    Calls Try.prog 17 #[.slice A0 l0.length c0, .int .i64 a1, .int .i64 a2] w fun e w' => e = .returned (.bool r) ∧ Below w.heap.size w w' := by
  unfold ontimelaw43_CeilingTables.f at h
  obtain ⟨t, h1, h⟩ := Option.bind_eq_some_iff.mp h
  cases t with
  | false => rw [if_neg (by simp)] at h; cases h
  | true =>
  rw [if_pos rfl] at h
  by_cases h2 : l0.length ≤ 40
  case neg =>
    rw [if_neg h2] at h
    obtain rfl := Option.some.inj h
    exact tab_great k A0 c0 l0 a1 a2 w hr0 hc0 h1 h2
  rw [if_pos h2] at h
  by_cases h3 : l0.all (fun t => decide (t.f3.length ≤ 16)) = true
  case neg =>
    rw [if_neg h3] at h
    obtain rfl := Option.some.inj h
    exact tab_wide k A0 c0 l0 a1 a2 w hr0 hc0 h1 h2 (fun hh => h3 (List.all_eq_true.2 fun t ht => decide_eq_true (hh t ht)))
  rw [if_pos h3] at h
  have h3' : ∀ t ∈ l0, t.f3.length ≤ 16 := fun t ht => of_decide_eq_true (List.all_eq_true.1 h3 t ht)
  obtain ⟨M, h4, h⟩ := Option.bind_eq_some_iff.mp h
  obtain ⟨v, h5, h⟩ := Option.bind_eq_some_iff.mp h
  obtain ⟨rv, h6, h⟩ := Option.bind_eq_some_iff.mp h
  by_cases hrv : rv = v
  case neg => rw [if_neg hrv] at h; cases h
  rw [if_pos hrv] at h
  subst hrv
  cases rv with
  | false =>
    rw [if_neg (by simp)] at h
    obtain ⟨x, h7, h⟩ := Option.bind_eq_some_iff.mp h
    by_cases hx : x = -1
    · rw [if_pos hx] at h
      obtain rfl := Option.some.inj h
      exact tab_main k A0 c0 l0 a1 a2 M false x w hr0 hc0 h1 h2 h3' h4 h5 h6 h7 (fun _ => hx) (fun hh => by cases hh)
    · rw [if_neg hx] at h; cases h
  | true =>
    rw [if_pos rfl] at h
    by_cases hD : tabD k l0 M = true
    case neg => rw [if_neg hD] at h; cases h
    rw [if_pos hD] at h
    obtain ⟨x, h7, h⟩ := Option.bind_eq_some_iff.mp h
    by_cases ho : tabOut l0 a1 a2 = true
    · rw [if_pos ho] at h
      by_cases hx : x = -1
      · rw [if_pos hx] at h
        obtain rfl := Option.some.inj h
        exact tab_main k A0 c0 l0 a1 a2 M true x w hr0 hc0 h1 h2 h3' h4 h5 h6 h7 (fun hh => by cases hh) (fun _ => ⟨hD, by rw [if_pos ho]; exact hx⟩)
      · rw [if_neg hx] at h; cases h
    · rw [if_neg ho] at h
      obtain ⟨y, h8, h⟩ := Option.bind_eq_some_iff.mp h
      by_cases hx : x = y
      · rw [if_pos hx] at h
        obtain rfl := Option.some.inj h
        exact tab_main k A0 c0 l0 a1 a2 M true x w hr0 hc0 h1 h2 h3' h4 h5 h6 h7 (fun hh => by cases hh) (fun _ => ⟨hD, by rw [if_neg ho, hx]; exact h8⟩)
      · rw [if_neg hx] at h; cases h

end Go.Proofs.Ytcmifojplgmgkaa.P
