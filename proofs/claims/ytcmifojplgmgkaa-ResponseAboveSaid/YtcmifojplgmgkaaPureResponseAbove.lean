/- The law ResponseAbove, without Go. -/
import Derived.Test.YtcmifojplgmgkaaP19
import Derived.Test.YtcmifojplgmgkaaRRef
set_option linter.unusedVariables false
namespace Go.Proofs.Ytcmifojplgmgkaa.Pure
open Go.RowKit Go.Proofs.Ytcmifojplgmgkaa.P Go.Proofs.YtcmifojplgmgkaaW.PrintWords Evs
/-- A task without its sections. -/
def bare (t : S49) : S49 := ⟨t.f0, t.f1, t.f2, []⟩
theorem bare_vld {t : S49} (h : vldT t = true) : vldT (bare t) = true := by
  obtain ⟨k1, k2, k3, k4, k5, k6, k7, k8⟩ := vldT_of h
  simp [vldT, bare, secB]
  omega
theorem vld_map {l : List S49} (hv : vld l = true) : vld (l.map bare) = true := by
  obtain ⟨h1, h2⟩ := vld_of hv
  unfold vld
  rw [Bool.and_eq_true, List.length_map]
  refine ⟨decide_eq_true h1, List.all_eq_true.2 fun t ht => ?_⟩
  obtain ⟨x, hx, rfl⟩ := List.mem_map.1 ht
  exact bare_vld (h2 x hx)
theorem vld_take {l : List S49} (hv : vld l = true) (n : Nat) : vld (l.take n) = true := by
  obtain ⟨h1, h2⟩ := vld_of hv
  unfold vld
  rw [Bool.and_eq_true]
  exact ⟨decide_eq_true (by rw [List.length_take]; omega), List.all_eq_true.2 fun t ht => h2 t (List.mem_of_mem_take ht)⟩
theorem isum_bare (w : Int) : ∀ l : List S49, isum (l.map bare) w = isum l w
  | [] => rfl
  | t :: r => by
    rw [List.map_cons]
    unfold isum
    rw [isum_bare w r]
    rfl
theorem foldl_bare (l : List S49) (i : Int) : ∀ (r : List S49) (m : Int), (r.map bare).foldl (fun m t => secMax l i m t.f3) m = m
  | [], _ => rfl
  | t :: r, m => by
    rw [List.map_cons, List.foldl_cons]
    exact foldl_bare l i r m
theorem block_bare (l : List S49) (i : Int) : blockV (l.map bare) i = 0 := by
  unfold blockV
  rw [← List.map_drop]
  exact foldl_bare _ i _ 0
theorem rd_bare {l : List S49} {i : Int} (h0 : 0 ≤ i) (h1 : i < l.length) : rd_T49 (l.map bare) i = bare (rd_T49 l i) := by
  have a := rd49_at (l.map bare) i.toNat (by rw [List.length_map]; omega)
  have b := rd49_at l i.toNat (by omega)
  rw [Int.toNat_of_nonneg h0] at a b
  rw [a, b, List.getElem_map]
theorem rd_take {l : List S49} {i : Int} (h0 : 0 ≤ i) (h1 : i < l.length) : rd_T49 (l.take (i + 1).toNat) i = rd_T49 l i := by
  have a := rd49_at (l.take (i + 1).toNat) i.toNat (by rw [List.length_take]; omega)
  have b := rd49_at l i.toNat (by omega)
  rw [Int.toNat_of_nonneg h0] at a b
  rw [a, b, List.getElem_take]
/-- Lists with one round of the iteration have one response time. -/
theorem IsResp.congr {l m : List S49} {i : Int} {r : Int × Int} (hd : (rd_T49 l i).f2 = (rd_T49 m i).f2) (hn : ∀ w, nextV l i w = nextV m i w) (h : IsResp l i r) : IsResp m i r := by
  unfold IsResp at *
  simp only [hd, hn] at h
  exact h
theorem fix_below {l : List S49} {i : Int} (hkn : known l i = true) : ∀ (n : Nat) (x : Int), x.toNat = n → 0 ≤ x → nextV l i x ≤ x → ∃ w, 0 ≤ w ∧ w ≤ x ∧ nextV l i w = w := by
  intro n
  induction n using Nat.strongRecOn with
  | ind n ih =>
    intro x hx x0 hle
    by_cases he : nextV l i x = x
    · exact ⟨x, x0, Int.le_refl _, he⟩
    · have h1 := nextV_ge hkn x0
      have h2 := ownV_bd hkn
      obtain ⟨w, w0, w1, w2⟩ := ih (nextV l i x).toNat (by omega) (nextV l i x) rfl (by omega) (nextV_mono hkn hle)
      exact ⟨w, w0, by omega, w2⟩
theorem above_true {k : Nat} (hk : 1 ≤ k) (l : List S49) (a1 : Int) : ontimelaw44_ResponseAbove.j0 k l a1 true = some true := by
  obtain ⟨k, rfl⟩ : ∃ m, k = m + 1 := ⟨k - 1, by omega⟩
  simp only [ontimelaw44_ResponseAbove.j0]
  rw [if_pos trivial]
section
variable {l : List S49} {i : Int} (hkn : known l i = true)
include hkn
theorem known_bare : known (l.map bare) i = true := by
  obtain ⟨hv, i0, i1⟩ := known_of_eq hkn
  exact known_iff (vld_map hv) i0 (by rw [List.length_map]; exact i1)
theorem known_take : known ((l.map bare).take (i + 1).toNat) i = true := by
  obtain ⟨hv, i0, i1⟩ := known_of_eq hkn
  exact known_iff (vld_take (vld_map hv) _) i0 (by rw [List.length_take, List.length_map]; omega)
theorem next_bare (w : Int) : nextV (l.map bare) i w = (rd_T49 l i).f0 + interf l i w := by
  obtain ⟨hv, i0, i1⟩ := known_of_eq hkn
  unfold nextV ownV interf
  rw [block_bare, rd_bare i0 i1, ← List.map_take, isum_bare, Int.add_zero]
  rfl
theorem next_take (w : Int) : nextV ((l.map bare).take (i + 1).toNat) i w = nextV (l.map bare) i w := by
  obtain ⟨hv, i0, i1⟩ := known_of_eq hkn
  have hb : blockV ((l.map bare).take (i + 1).toNat) i = 0 := by
    unfold blockV
    rw [List.drop_of_length_le (by rw [List.length_take]; omega)]
    rfl
  unfold nextV ownV interf
  rw [hb, block_bare, rd_take i0 (by rw [List.length_map]; exact i1), List.take_take, Nat.min_eq_left (by omega)]
theorem resp_take : respV ((l.map bare).take (i + 1).toNat) i = respV (l.map bare) i := by
  obtain ⟨hv, i0, i1⟩ := known_of_eq hkn
  refine (IsResp.congr (l := (l.map bare).take (i + 1).toNat) (m := l.map bare) ?_ (next_take hkn) (respV_is (known_take hkn))).unique (respV_is (known_bare hkn))
  rw [rd_take i0 (by rw [List.length_map]; exact i1)]
theorem resp_noblock (h : blockV l i = 0) : respV l i = respV (l.map bare) i := by
  obtain ⟨hv, i0, i1⟩ := known_of_eq hkn
  refine (IsResp.congr (l := l) (m := l.map bare) ?_ (fun w => ?_) (respV_is hkn)).unique (respV_is (known_bare hkn))
  · rw [rd_bare i0 i1]; rfl
  · rw [next_bare hkn]
    unfold nextV ownV
    rw [h, Int.add_zero]
theorem resp_block (h : (respV l i).2 ≠ 21) : (respV (l.map bare) i).2 = 0 ∧ (respV (l.map bare) i).1 + blockV l i ≤ (respV l i).1 := by
  obtain ⟨hv, i0, i1⟩ := known_of_eq hkn
  obtain ⟨t1, t2, t3, t4, t5, t6⟩ := task_bd hkn
  have hb := blockV_bd hv i
  rcases respV_is hkn with ⟨h1, h2, h3, h4, h5⟩ | ⟨h1, _⟩
  · have e : nextV l i (respV l i).1 = (rd_T49 l i).f0 + blockV l i + interf l i (respV l i).1 := rfl
    have hi := interf_nonneg (Pos.of_vld hv) i (show 0 ≤ (respV l i).1 by omega)
    have hm := interf_mono (Pos.of_vld hv) i (show (respV l i).1 - blockV l i ≤ (respV l i).1 by omega)
    obtain ⟨w, w0, w1, w2⟩ := fix_below (known_bare hkn) _ ((respV l i).1 - blockV l i) rfl (by omega) (by rw [next_bare hkn]; omega)
    rcases respV_is (known_bare hkn) with ⟨k1, k2, k3, k4, k5⟩ | ⟨k1, k2⟩
    · have := k5 w w0 w2
      exact ⟨k1, by omega⟩
    · have := k2 w w0 w2
      rw [rd_bare i0 i1] at this
      have e2 : (bare (rd_T49 l i)).f2 = (rd_T49 l i).f2 := rfl
      omega
  · rw [h1] at h
    exact absurd rfl h
theorem above_end {k : Nat} (hk : 1110 ≤ k) : ontimelaw44_ResponseAbove.j2 k l i (respV (l.map bare) i).1 (respV (l.map bare) i).2 (respV l i).1 (respV l i).2 false = some true := by
  obtain ⟨k, rfl⟩ : ∃ m, k = m + 1 := ⟨k - 1, by omega⟩
  obtain ⟨hv, i0, i1⟩ := known_of_eq hkn
  have hb := blockV_bd hv i
  simp only [ontimelaw44_ResponseAbove.j2]
  rw [if_neg (by simp), block_eq (by omega) hkn]
  simp only [Option.bind_some]
  by_cases h : blockV l i = 0
  · rw [if_pos h, resp_noblock hkn h, if_pos rfl, beq_self_eq_true]
  · rw [if_neg h]
    by_cases hl : (respV l i).2 = 21
    · rw [if_pos hl]
    · obtain ⟨h1, h2⟩ := resp_block hkn hl
      rw [if_neg hl, if_pos h1]
      have hr : 0 ≤ (respV (l.map bare) i).1 ∧ (respV (l.map bare) i).1 ≤ 1000 := by
        have tb := task_bd (known_bare hkn)
        rcases respV_is (known_bare hkn) with ⟨k1, k2, k3, _⟩ | ⟨k1, _⟩
        · omega
        · rw [k1]; decide
      rw [wrap64_of (by omega) (by omega), decide_eq_true h2]
end
theorem set_at' {α : Type} (a : List α) (b c : α) (r : List α) : (a ++ b :: r).set a.length c = a ++ c :: r := by
  rw [List.set_append_right _ _ (Nat.le_refl _), Nat.sub_self]
  rfl
theorem above_l0 {l : List S49} {i : Int} (hkn : known l i = true) : ∀ (n j k : Nat), j + n = l.length → n + 1120 ≤ k →
    ontimelaw44_ResponseAbove.l0 k l i ((l.take j).map bare ++ List.replicate n z49) l (l.length : Int) (j : Int) = some true := by
  obtain ⟨hv, i0, i1⟩ := known_of_eq hkn
  have h20 := (vld_of hv).1
  intro n
  induction n with
  | zero =>
    intro j k hj hk
    obtain ⟨k, rfl⟩ : ∃ m, k = m + 1 := ⟨k - 1, by omega⟩
    simp only [ontimelaw44_ResponseAbove.l0]
    rw [if_neg (by omega), List.replicate_zero, List.append_nil, List.take_of_length_le (by omega), respV_eq (by omega) (known_bare hkn), wrap64_of (x := i + 1) (by omega) (by omega)]
    simp only [Option.bind_some]
    rw [if_pos (by omega), if_pos (by rw [List.length_map]; omega), respV_eq (by omega) (known_take hkn), resp_take hkn, respV_eq (by omega) hkn]
    simp only [Option.bind_some]
    rw [if_pos trivial, if_pos trivial, block_eq (by omega) (known_bare hkn), block_bare]
    simp only [Option.bind_some]
    exact above_end hkn (by omega)
  | succ n ih =>
    intro j k hj hk
    obtain ⟨k, rfl⟩ : ∃ m, k = m + 1 := ⟨k - 1, by omega⟩
    have hjl : j < l.length := by omega
    have hlen : ((l.take j).map bare).length = j := by rw [List.length_map, List.length_take]; omega
    simp only [ontimelaw44_ResponseAbove.l0]
    rw [if_pos (by omega), if_pos (by omega), if_pos (by omega), if_pos (by rw [List.length_append, hlen, List.length_replicate]; omega), rd49_at l j hjl, Int.toNat_natCast, wrap64_of (x := (j : Int) + 1) (by omega) (by omega), List.replicate_succ]
    have e := set_at' ((l.take j).map bare) z49 (bare l[j]) (List.replicate n z49)
    rw [hlen] at e
    rw [show (⟨l[j].f0, l[j].f1, l[j].f2, []⟩ : S49) = bare l[j] from rfl, e]
    have b := ih (j + 1) k (by omega) (by omega)
    rw [List.take_succ_eq_append_getElem hjl, List.map_append, List.append_assoc, show ((j + 1 : Nat) : Int) = (j : Int) + 1 by omega] at b
    exact b
theorem ResponseAbove {P Q R : Prop} (l : List S49) (a1 : Int) (_ : P) (_ : Q) (_ : R) (w1 : (Lit.int .u8 a1).wf = true) : ∃ k, ontimelaw44_ResponseAbove.f k l a1 = some true := by
  refine ⟨3000, ?_⟩
  unfold ontimelaw44_ResponseAbove.f
  rw [awake_eq (by omega)]
  simp only [Option.bind_some]
  rw [if_pos trivial, great_eq (by omega)]
  simp only [Option.bind_some]
  by_cases hg : grt l = true
  · rw [if_pos hg]
    exact above_true (by omega) l a1
  · rw [if_neg hg]
    by_cases hl : (l.length : Int) = 0
    · rw [if_pos hl]
      exact above_true (by omega) l a1
    · rw [if_neg hl, cvalid_eq (by omega)]
      simp only [Option.bind_some]
      by_cases hv : vld l = true
      · have h20 := (vld_of hv).1
        obtain ⟨i0, i1⟩ := tmod_bd (a := a1) (n := (l.length : Int)) (b8 w1).1 (by have := (b8 w1).2; omega) (by omega)
        rw [hv, show (3000 : Nat) = 2999 + 1 from rfl]
        simp only [ontimelaw44_ResponseAbove.j0]
        rw [if_neg (by simp), if_neg hl, if_pos (by omega), if_pos (by omega), Int.toNat_natCast]
        generalize Int.tmod (wrap64 a1) (l.length : Int) = i at *
        exact above_l0 (known_iff hv i0 i1) l.length 0 2999 (by omega) (by omega)
      · rw [show vld l = false by simpa using hv]
        exact above_true (by omega) l a1
end Go.Proofs.Ytcmifojplgmgkaa.Pure
