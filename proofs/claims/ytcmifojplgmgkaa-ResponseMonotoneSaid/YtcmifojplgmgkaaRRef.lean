/- The reference, as numbers. -/
import Derived.Test.YtcmifojplgmgkaaP21
import Derived.Test.YtcmifojplgmgkaaRLaws
set_option linter.unusedVariables false
set_option linter.unusedSectionVars false
namespace Go.Proofs.Ytcmifojplgmgkaa.Evs
open Go.RowKit Go.Proofs.Ytcmifojplgmgkaa.P Go.Proofs.YtcmifojplgmgkaaW.PrintWords Go.Proofs.YtcmifojplgmgkaaW.PrintMore
def to94 (s : S68) : S94 := ⟨s.f0, s.f1, s.f2⟩
def to93 (t : S49) : S93 := ⟨t.f0, t.f1, t.f2, t.f3.map to94⟩
theorem rd93_at (l : List S93) (i : Nat) (h : i < l.length) : rd_T93 l (i : Int) = l[i] := by
  unfold rd_T93
  rw [Int.toNat_natCast, List.getD_eq_getElem?_getD, List.getElem?_eq_getElem h]
  rfl
theorem rd94_at (l : List S94) (i : Nat) (h : i < l.length) : rd_T94 l (i : Int) = l[i] := by
  unfold rd_T94
  rw [Int.toNat_natCast, List.getD_eq_getElem?_getD, List.getElem?_eq_getElem h]
  rfl
theorem rd93_to (l : List S49) {i : Int} (h0 : 0 ≤ i) (h1 : i < l.length) : rd_T93 (l.map to93) i = to93 (rd_T49 l i) := by
  have a := rd93_at (l.map to93) i.toNat (by rw [List.length_map]; omega)
  have b := rd49_at l i.toNat (by omega)
  rw [Int.toNat_of_nonneg h0] at a b
  rw [a, b, List.getElem_map]
/-! The list of the reference's tasks -/
theorem plain_l1 (x3 : List S93) (x9 : List S49) (x10 x11 c0 c1 c2 : Int) (h3 : x3.length ≤ 1000) (ss : List S68) (h10 : ss.length ≤ 10) : ∀ (n i k : Nat) (acc : List S94), i + n = ss.length → acc.length = i →
    ontimelaw44_plain.l1 (k + (n + 1)) x3 x9 x10 x11 ss (ss.length : Int) (i : Int) c0 c1 c2 acc = ontimelaw44_plain.l0 k (x3 ++ [⟨c0, c1, c2, acc ++ (ss.drop i).map to94⟩]) x9 x10 (wrap64 (x11 + 1)) := by
  intro n
  induction n with
  | zero =>
    intro i k acc hi ha
    simp only [ontimelaw44_plain.l1]
    rw [if_neg (by omega), if_pos (by omega), List.drop_of_length_le (by omega)]
    simp
  | succ n ih =>
    intro i k acc hi ha
    have hil : i < ss.length := by omega
    have := ih (i + 1) k (acc ++ [to94 ss[i]]) (by omega) (by simp [ha])
    rw [show ((i + 1 : Nat) : Int) = (i : Int) + 1 by omega] at this
    rw [show k + (n + 1 + 1) = (k + (n + 1)) + 1 by omega]
    generalize k + (n + 1) = q at this ⊢
    simp only [ontimelaw44_plain.l1]
    rw [if_pos (by omega), if_pos (by omega), if_pos (by omega), if_pos (by omega), rd68_at ss i hil, wrap64_of (x := (i : Int) + 1) (by omega) (by omega), List.drop_eq_getElem_cons hil]
    rw [show (⟨ss[i].f0, ss[i].f1, ss[i].f2⟩ : S94) = to94 ss[i] from rfl, this, List.append_assoc]
    rfl
theorem plain_l0 (l : List S49) (h20 : l.length ≤ 20) (h10 : ∀ t ∈ l, t.f3.length ≤ 10) : ∀ (n i k : Nat) (acc : List S93), i + n = l.length → acc.length = i → 12 * n + 1 ≤ k →
    ontimelaw44_plain.l0 k acc l (l.length : Int) (i : Int) = some (acc ++ (l.drop i).map to93) := by
  intro n
  induction n with
  | zero =>
    intro i k acc hi ha hk
    obtain ⟨k, rfl⟩ : ∃ m, k = m + 1 := ⟨k - 1, by omega⟩
    simp only [ontimelaw44_plain.l0]
    rw [if_neg (by omega), List.drop_of_length_le (by omega)]
    simp
  | succ n ih =>
    intro i k acc hi ha hk
    have hil : i < l.length := by omega
    have h := h10 l[i] (List.getElem_mem _)
    obtain ⟨k, rfl⟩ : ∃ m, k = (m + (l[i].f3.length + 1)) + 1 := ⟨k - l[i].f3.length - 2, by omega⟩
    have a := plain_l1 acc l (l.length : Int) (i : Int) l[i].f0 l[i].f1 l[i].f2 (by omega) l[i].f3 h l[i].f3.length 0 k [] (by omega) rfl
    rw [show ((0 : Nat) : Int) = 0 from rfl] at a
    generalize k + (l[i].f3.length + 1) = q at a ⊢
    simp only [ontimelaw44_plain.l0]
    rw [if_pos (by omega), if_pos (by omega), if_pos (by omega), rd49_at l i hil]
    rw [a, wrap64_of (x := (i : Int) + 1) (by omega) (by omega), List.drop_zero, List.nil_append, List.drop_eq_getElem_cons hil]
    have b := ih (i + 1) k (acc ++ [to93 l[i]]) (by omega) (by simp [ha]) (by omega)
    rw [show ((i + 1 : Nat) : Int) = (i : Int) + 1 by omega] at b
    rw [show (⟨l[i].f0, l[i].f1, l[i].f2, l[i].f3.map to94⟩ : S93) = to93 l[i] from rfl, b, List.append_assoc]
    rfl
theorem vld_len {l : List S49} (hv : vld l = true) : l.length ≤ 20 ∧ ∀ t ∈ l, t.f3.length ≤ 8 := ⟨(vld_of hv).1, fun t ht => (vldT_of ((vld_of hv).2 t ht)).2.2.2.2.2.2.1⟩
theorem plain_eq {k : Nat} (hk : 250 ≤ k) {l : List S49} (hv : vld l = true) : ontimelaw44_plain.f k l = some (l.map to93) := by
  obtain ⟨h20, h8⟩ := vld_len hv
  unfold ontimelaw44_plain.f
  have := plain_l0 l h20 (fun t ht => by have := h8 t ht; omega) l.length 0 k [] (by omega) rfl (by omega)
  rw [show ((0 : Nat) : Int) = 0 from rfl] at this
  rw [this]
  simp
/-! The ceiling -/
def uses93 (t : S93) (o : Int) : Bool := t.f3.any fun s => s.f0 == o
theorem uses93_to (t : S49) (o : Int) : uses93 (to93 t) o = usesO t o := by
  unfold uses93 usesO to93
  simp only [List.any_map]
  rfl
def ceilR (l : List S49) (o : Int) : Int := (((l.findIdx? fun t => usesO t o).getD l.length : Nat) : Int)
theorem refceil_l1 (P : List S93) (o : Int) (x5 : Nat) (h5 : x5 < P.length) (h10 : P[x5].f3.length ≤ 10) : ∀ (n i k : Nat), i + n = P[x5].f3.length →
    ontimeref43_Ceiling.l1 (k + (n + 1)) P o (x5 : Int) (i : Int) = if ((P[x5].f3.drop i).any fun s => s.f0 == o) = true then some (x5 : Int) else ontimeref43_Ceiling.l0 k P o (wrap64 ((x5 : Int) + 1)) := by
  intro n
  induction n with
  | zero =>
    intro i k hi
    simp only [ontimeref43_Ceiling.l1]
    rw [if_pos (by omega), if_pos (by omega), rd93_at P x5 h5, if_neg (by omega), List.drop_of_length_le (by omega)]
    rfl
  | succ n ih =>
    intro i k hi
    have hil : i < P[x5].f3.length := by omega
    have b := ih (i + 1) k (by omega)
    rw [show k + (n + 1 + 1) = (k + (n + 1)) + 1 by omega]
    generalize k + (n + 1) = q at b ⊢
    simp only [ontimeref43_Ceiling.l1]
    rw [if_pos (by omega), if_pos (by omega), rd93_at P x5 h5, if_pos (by omega), if_pos (by omega), rd94_at P[x5].f3 i hil, List.drop_eq_getElem_cons hil, List.any_cons]
    by_cases hc : P[x5].f3[i].f0 = o
    · rw [if_pos hc, beq_iff_eq.2 hc, Bool.true_or, if_pos rfl]
    · rw [if_neg hc, beq_eq_false_iff_ne.2 hc, Bool.false_or, wrap64_of (x := (i : Int) + 1) (by omega) (by omega)]
      exact b
theorem refceil_l0 (P : List S93) (o : Int) (h20 : P.length ≤ 20) (h10 : ∀ t ∈ P, t.f3.length ≤ 10) : ∀ (n i k : Nat), i + n = P.length → 12 * n + 1 ≤ k →
    ontimeref43_Ceiling.l0 k P o (i : Int) = some (match (P.drop i).findIdx? (fun t => uses93 t o) with | some j => ((i + j : Nat) : Int) | none => (P.length : Int)) := by
  intro n
  induction n with
  | zero =>
    intro i k hi hk
    obtain ⟨k, rfl⟩ : ∃ m, k = m + 1 := ⟨k - 1, by omega⟩
    simp only [ontimeref43_Ceiling.l0]
    rw [if_neg (by omega), List.drop_of_length_le (by omega)]
    rfl
  | succ n ih =>
    intro i k hi hk
    have hil : i < P.length := by omega
    have h := h10 P[i] (List.getElem_mem _)
    obtain ⟨k, rfl⟩ : ∃ m, k = (m + (P[i].f3.length + 1)) + 1 := ⟨k - P[i].f3.length - 2, by omega⟩
    have a := refceil_l1 P o i hil h P[i].f3.length 0 k (by omega)
    rw [show ((0 : Nat) : Int) = 0 from rfl, List.drop_zero] at a
    generalize k + (P[i].f3.length + 1) = q at a ⊢
    simp only [ontimeref43_Ceiling.l0]
    rw [if_pos (by omega), a, List.drop_eq_getElem_cons hil, List.findIdx?_cons, show (P[i].f3.any fun s => s.f0 == o) = uses93 P[i] o from rfl]
    by_cases hc : uses93 P[i] o = true
    · rw [if_pos hc, if_pos hc]
      rfl
    · rw [if_neg hc, if_neg hc, wrap64_of (x := (i : Int) + 1) (by omega) (by omega)]
      have b := ih (i + 1) k (by omega) (by omega)
      rw [show ((i + 1 : Nat) : Int) = (i : Int) + 1 by omega] at b
      rw [b]
      cases (P.drop (i + 1)).findIdx? (fun t => uses93 t o) with
      | none => rfl
      | some j => simp only [Option.map_some]; rw [show i + 1 + j = i + (j + 1) by omega]
theorem refceil_eq {k : Nat} (hk : 250 ≤ k) {l : List S49} (hv : vld l = true) (o : Int) : ontimeref43_Ceiling.f k (l.map to93) o = some (ceilR l o) := by
  obtain ⟨h20, h8⟩ := vld_len hv
  unfold ontimeref43_Ceiling.f ceilR
  have := refceil_l0 (l.map to93) o (by rw [List.length_map]; exact h20) (fun t ht => by
    obtain ⟨x, hx, rfl⟩ := List.mem_map.1 ht
    have := h8 x hx
    unfold to93
    simp only [List.length_map]
    omega) (l.map to93).length 0 k (by omega) (by rw [List.length_map]; omega)
  rw [show ((0 : Nat) : Int) = 0 from rfl, List.drop_zero, List.findIdx?_map, List.length_map] at this
  rw [this, show ((fun t => uses93 t o) ∘ to93) = fun t => usesO t o from funext fun t => uses93_to t o]
  cases l.findIdx? (fun t => usesO t o) with
  | none => rfl
  | some j => simp
/-- An object that is used: both ceilings are the same. -/
theorem ceilR_used {l : List S49} {t : S49} {s : S68} (ht : t ∈ l) (hs : s ∈ t.f3) : ceilR l s.f0 = ceilF l s.f0 := by
  unfold ceilR ceilF
  cases e : l.findIdx? (fun t => usesO t s.f0) with
  | some j => rfl
  | none =>
    have := List.findIdx?_eq_none_iff.1 e t ht
    unfold usesO at this
    have := List.any_eq_false.1 this s hs
    simp at this
/-! The blocking -/
theorem refblock_l1 {l : List S49} (hv : vld l = true) (task : Int) (x6 : Nat) (h6 : x6 < l.length) : ∀ (n i k : Nat) (m : Int), 250 ≤ k → i + n = l[x6].f3.length → 
    ontimeref44_Blocking.l1 (k + (n + 1)) (l.map to93) task m (x6 : Int) (i : Int) = ontimeref44_Blocking.l0 k (l.map to93) task (secMax l task m (l[x6].f3.drop i)) (wrap64 ((x6 : Int) + 1)) := by
  obtain ⟨h20, h8⟩ := vld_len hv
  have ht := List.getElem_mem h6
  have h8' := h8 _ ht
  have hlen : (to93 l[x6]).f3.length = l[x6].f3.length := List.length_map _
  obtain ⟨_, kc, _, _, _, _, _, k8⟩ := vldT_of ((vld_of hv).2 _ ht)
  have er : rd_T93 (l.map to93) (x6 : Int) = to93 l[x6] := by rw [rd93_to l (by omega) (by omega), rd49_at l x6 h6]
  intro n
  induction n with
  | zero =>
    intro i k m hk hi
    simp only [ontimeref44_Blocking.l1]
    rw [if_pos (by omega), if_pos (by rw [List.length_map]; omega), er, hlen, if_neg (by omega), List.drop_of_length_le (by omega)]
    rfl
  | succ n ih =>
    intro i k m hk hi
    have hil : i < l[x6].f3.length := by omega
    have hs := List.getElem_mem hil
    have hb := secB_bd (Int.le_refl 0) k8 _ hs
    have es : rd_T94 (to93 l[x6]).f3 (i : Int) = to94 l[x6].f3[i] := by
      rw [rd94_at _ i (by rw [hlen]; exact hil)]
      simp only [to93, List.getElem_map]
    have b := fun m => ih (i + 1) k m hk (by omega)
    rw [show ((i + 1 : Nat) : Int) = (i : Int) + 1 by omega] at b
    rw [show k + (n + 1 + 1) = (k + (n + 1)) + 1 by omega]
    obtain ⟨q, hq⟩ : ∃ q, q = k + (n + 1) := ⟨_, rfl⟩
    rw [← hq] at b ⊢
    simp only [ontimeref44_Blocking.l1]
    rw [if_pos (by omega), if_pos (by rw [List.length_map]; omega), er, hlen, if_pos (by omega), if_pos (by omega), es, refceil_eq (by omega) hv, show (to94 l[x6].f3[i]).f0 = l[x6].f3[i].f0 from rfl, ceilR_used ht hs]
    simp only [Option.bind_some]
    rw [show (to94 l[x6].f3[i]).f1 = l[x6].f3[i].f1 from rfl, show (to94 l[x6].f3[i]).f2 = l[x6].f3[i].f2 from rfl, wrap64_of (x := l[x6].f3[i].f2 - l[x6].f3[i].f1) (by omega) (by omega), wrap64_of (x := l[x6].f3[i].f2 - l[x6].f3[i].f1 - 1) (by omega) (by omega),
      wrap64_of (x := (i : Int) + 1) (by omega) (by omega), List.drop_eq_getElem_cons hil]
    have e : secMax l task m (l[x6].f3[i] :: l[x6].f3.drop (i + 1)) = secMax l task (if ceilF l l[x6].f3[i].f0 ≤ task then mx m (l[x6].f3[i].f2 - l[x6].f3[i].f1 - 1) else m) (l[x6].f3.drop (i + 1)) := rfl
    rw [e]
    by_cases hc : ceilF l l[x6].f3[i].f0 ≤ task
    · rw [if_pos hc, if_pos hc]
      unfold mx
      by_cases hm : l[x6].f3[i].f2 - l[x6].f3[i].f1 - 1 > m
      · rw [if_pos hm, if_pos hm, b]
      · rw [if_neg hm, if_neg hm, b]
    · rw [if_neg hc, if_neg hc, b]
theorem refblock_l0 {l : List S49} (hv : vld l = true) (task : Int) : ∀ (n i k : Nat) (m : Int), 260 + 12 * n ≤ k → i + n = l.length →
    ontimeref44_Blocking.l0 k (l.map to93) task m (i : Int) = some ((l.drop i).foldl (fun m t => secMax l task m t.f3) m) := by
  obtain ⟨h20, h8⟩ := vld_len hv
  intro n
  induction n with
  | zero =>
    intro i k m hk hi
    obtain ⟨k, rfl⟩ : ∃ m, k = m + 1 := ⟨k - 1, by omega⟩
    simp only [ontimeref44_Blocking.l0]
    rw [if_neg (by rw [List.length_map]; omega), List.drop_of_length_le (by omega)]
    rfl
  | succ n ih =>
    intro i k m hk hi
    have hil : i < l.length := by omega
    have h := h8 l[i] (List.getElem_mem _)
    obtain ⟨k, rfl⟩ : ∃ m, k = (m + (l[i].f3.length + 1)) + 1 := ⟨k - l[i].f3.length - 2, by omega⟩
    have a := refblock_l1 hv task i hil l[i].f3.length 0 k m (by omega) (by omega)
    rw [show ((0 : Nat) : Int) = 0 from rfl, List.drop_zero] at a
    generalize k + (l[i].f3.length + 1) = q at a ⊢
    simp only [ontimeref44_Blocking.l0]
    rw [if_pos (by rw [List.length_map]; omega), a, wrap64_of (x := (i : Int) + 1) (by omega) (by omega), List.drop_eq_getElem_cons hil, List.foldl_cons]
    exact ih (i + 1) k _ (by omega) (by omega)
theorem refblock_eq {k : Nat} (hk : 600 ≤ k) {l : List S49} {i : Int} (hkn : known l i = true) : ontimeref44_Blocking.f k (l.map to93) i = some (blockV l i) := by
  obtain ⟨hv, i0, i1⟩ := known_of_eq hkn
  have h20 := (vld_of hv).1
  unfold ontimeref44_Blocking.f blockV
  rw [wrap64_of (by omega) (by omega)]
  have := refblock_l0 hv i (l.length - (i.toNat + 1)) (i.toNat + 1) k 0 (by omega) (by omega)
  rw [show ((i.toNat + 1 : Nat) : Int) = i + 1 by omega] at this
  exact this
/-! The interference -/
theorem refinterf_l0 {l : List S49} (hp : Pos l) (h20 : l.length ≤ 20) {w : Int} (hw : 0 ≤ w) (hw2 : w ≤ 100000) (task : Nat) (ht : task ≤ l.length) : ∀ (n i k : Nat) (s : Int), i + n = task → n + 2 ≤ k → 0 ≤ s → s ≤ 100000000 * i →
    ontimeref44_Interference.l0 k (l.map to93) (task : Int) w s (i : Int) = some (s + isum ((l.take task).drop i) w) := by
  intro n
  induction n with
  | zero =>
    intro i k s hi hk s0 s1
    obtain ⟨k, rfl⟩ : ∃ m, k = m + 1 := ⟨k - 1, by omega⟩
    simp only [ontimeref44_Interference.l0]
    rw [if_neg (by omega), List.drop_of_length_le (by rw [List.length_take]; omega)]
    simp [isum]
  | succ n ih =>
    intro i k s hi hk s0 s1
    obtain ⟨k, rfl⟩ : ∃ m, k = m + 1 := ⟨k - 1, by omega⟩
    have hil : i < l.length := by omega
    obtain ⟨h1, h2, h3, h4⟩ := hp l[i] (List.getElem_mem _)
    obtain ⟨b1, b2⟩ := term_bd hw hw2 h1 h2 h3
    have c0 := cdiv_nonneg hw h3
    have c1 := cdiv_le hw h3
    have er : rd_T93 (l.map to93) (i : Int) = to93 l[i] := by rw [rd93_to l (by omega) (by omega), rd49_at l i hil]
    have hlt : i < (l.take task).length := by rw [List.length_take]; omega
    simp only [ontimeref44_Interference.l0]
    rw [if_pos (by omega), if_pos (by omega), if_pos (by rw [List.length_map]; omega), er, show (to93 l[i]).f1 = l[i].f1 from rfl, show (to93 l[i]).f0 = l[i].f0 from rfl, if_neg (by omega), wrap64_of (x := w + l[i].f1) (by omega) (by omega), wrap64_of (x := w + l[i].f1 - 1) (by omega) (by omega),
      Int.tdiv_eq_ediv_of_nonneg (by omega), show (w + l[i].f1 - 1) / l[i].f1 = cdiv w l[i].f1 from rfl, wrap64_of (x := cdiv w l[i].f1) (by omega) (by omega), Int.mul_comm, wrap64_of (x := l[i].f0 * cdiv w l[i].f1) (by omega) (by omega),
      wrap64_of (x := s + l[i].f0 * cdiv w l[i].f1) (by omega) (by omega), wrap64_of (x := (i : Int) + 1) (by omega) (by omega), List.drop_eq_getElem_cons hlt, List.getElem_take]
    have := ih (i + 1) k (s + l[i].f0 * cdiv w l[i].f1) (by omega) (by omega) (by omega) (by omega)
    rw [show ((i + 1 : Nat) : Int) = (i : Int) + 1 by omega] at this
    rw [this, show isum (l[i] :: (l.take task).drop (i + 1)) w = l[i].f0 * cdiv w l[i].f1 + isum ((l.take task).drop (i + 1)) w from rfl]
    congr 1
    omega
theorem refinterf_eq {k : Nat} (hk : 42 ≤ k) {l : List S49} {i w : Int} (hkn : known l i = true) (hw : 0 ≤ w) (hw2 : w ≤ 100000) : ontimeref44_Interference.f k (l.map to93) i w = some (interf l i w) := by
  obtain ⟨hv, i0, i1⟩ := known_of_eq hkn
  have h20 := (vld_of hv).1
  unfold ontimeref44_Interference.f interf
  have := refinterf_l0 (Pos.of_vld hv) h20 hw hw2 i.toNat (by omega) i.toNat 0 k 0 (by omega) (by omega) (by omega) (by omega)
  rw [Int.toNat_of_nonneg i0, List.drop_zero, Int.zero_add] at this
  exact this
/-! The response time -/
theorem refresp_l0 {l : List S49} {i : Int} (hkn : known l i = true) {r : Int × Int} (hr : IsResp l i r) : ∀ (n k : Nat) (x : Int), 1 ≤ x → ((rd_T49 l i).f2 + 1 - x).toNat ≤ n → n + 60 ≤ k → (∀ w, 0 ≤ w → w < x → nextV l i w ≠ w) →
    ontimeref44_Response.l0 k (l.map to93) i (ownV l i) x = some (r.1, r.2 == 0) := by
  obtain ⟨hv, i0, i1⟩ := known_of_eq hkn
  obtain ⟨_, _, t3, t4, t5, t6⟩ := task_bd hkn
  have ho := ownV_bd hkn
  have h20 := (vld_of hv).1
  have late : ∀ (x : Int), (rd_T49 l i).f2 < x → (∀ w, 0 ≤ w → w < x → nextV l i w ≠ w) → r = (0, 21) := by
    intro x hx hno
    rcases hr with ⟨h1, h2, h3, h4, h5⟩ | ⟨rfl, h1⟩
    · exact absurd h4 (hno r.1 (by omega) (by omega))
    · rfl
  have ef : (rd_T93 (l.map to93) i).f2 = (rd_T49 l i).f2 := by rw [rd93_to l i0 i1]; rfl
  intro n
  induction n with
  | zero =>
    intro k x x1 hn hk hno
    obtain ⟨k, rfl⟩ : ∃ m, k = m + 1 := ⟨k - 1, by omega⟩
    have := late x (by omega) hno
    subst this
    simp only [ontimeref44_Response.l0]
    rw [if_pos i0, if_pos (by rw [List.length_map]; exact i1), ef, if_neg (by omega)]
    rfl
  | succ n ih =>
    intro k x x1 hn hk hno
    obtain ⟨k, rfl⟩ : ∃ m, k = m + 1 := ⟨k - 1, by omega⟩
    by_cases hx : x ≤ (rd_T49 l i).f2
    · have hib := interf_bd (Pos.of_vld hv) h20 i (show 0 ≤ x by omega) (show x ≤ 100000 by omega)
      have hin := interf_nonneg (Pos.of_vld hv) i (show 0 ≤ x by omega)
      have e : ownV l i + interf l i x = nextV l i x := rfl
      simp only [ontimeref44_Response.l0]
      rw [if_pos i0, if_pos (by rw [List.length_map]; exact i1), ef, if_pos hx, refinterf_eq (by omega) hkn (by omega) (by omega)]
      simp only [Option.bind_some]
      rw [wrap64_of (x := ownV l i + interf l i x) (by omega) (by omega), e]
      by_cases hf : nextV l i x = x
      · rw [if_pos hf]
        rcases hr with ⟨h1, h2, h3, h4, h5⟩ | ⟨rfl, h1⟩
        · have a := h5 x (by omega) hf
          have b : ¬ r.1 < x := fun hh => hno r.1 (by omega) hh h4
          rw [h1, show r.1 = x by omega, beq_self_eq_true]
        · have := h1 x (by omega) hf
          omega
      · rw [if_neg hf, wrap64_of (x := x + 1) (by omega) (by omega)]
        refine ih k (x + 1) (by omega) (by omega) (by omega) (fun w hw hlt => ?_)
        by_cases e2 : w = x
        · rw [e2]; exact hf
        · exact hno w hw (by omega)
    · have := late x (by omega) hno
      subst this
      simp only [ontimeref44_Response.l0]
      rw [if_pos i0, if_pos (by rw [List.length_map]; exact i1), ef, if_neg hx]
      rfl
theorem refresp_eq {k : Nat} (hk : 2000 ≤ k) {l : List S49} {i : Int} (hkn : known l i = true) {r : Int × Int} (hr : IsResp l i r) : ontimeref44_Response.f k (l.map to93) i = some (r.1, r.2 == 0) := by
  obtain ⟨hv, i0, i1⟩ := known_of_eq hkn
  obtain ⟨t1, t2, t3, t4, t5, t6⟩ := task_bd hkn
  have ho := ownV_bd hkn
  unfold ontimeref44_Response.f
  rw [if_pos i0, if_pos (by rw [List.length_map]; exact i1), refblock_eq (by omega) hkn]
  simp only [Option.bind_some]
  have e : (rd_T93 (l.map to93) i).f0 + blockV l i = ownV l i := by rw [rd93_to l i0 i1]; rfl
  rw [e, wrap64_of (by omega) (by omega)]
  exact refresp_l0 hkn hr 1000 k _ (by omega) (by omega) (by omega) (fun w hw hlt hf => by have := nextV_ge hkn hw; omega)
/-! All -/
def respV (l : List S49) (i : Int) : Int × Int := (response_Response.f 1100 l i).getD (0, 0)
theorem respV_is {l : List S49} {i : Int} (hkn : known l i = true) : IsResp l i (respV l i) := by
  obtain ⟨r, e, h⟩ := resp_yes hkn (Nat.le_refl 1100)
  unfold respV
  rw [e]
  exact h
theorem respV_eq {k : Nat} (hk : 1100 ≤ k) {l : List S49} {i : Int} (hkn : known l i = true) : response_Response.f k l i = some (respV l i) := by
  obtain ⟨r, e, h⟩ := resp_yes hkn hk
  rw [e, h.unique (respV_is hkn)]
theorem respV_e {l : List S49} {i : Int} (hkn : known l i = true) : (respV l i).2 = 0 ∨ respV l i = (0, 21) := by
  rcases respV_is hkn with ⟨h, _⟩ | ⟨h, _⟩
  · exact .inl h
  · exact .inr h
/-- From a task on: the first late one, or all. -/
def lateFrom (l : List S49) (i : Nat) : Bool := ((List.range l.length).drop i).any fun (j : Nat) => (respV l (j : Int)).2 != 0
def timesFrom (l : List S49) (i : Nat) : List Int := ((List.range l.length).drop i).map fun (j : Nat) => (respV l (j : Int)).1
theorem range_drop {n i : Nat} (h : i < n) : (List.range n).drop i = i :: (List.range n).drop (i + 1) := by
  rw [List.drop_eq_getElem_cons (by rw [List.length_range]; exact h), List.getElem_range]
theorem all_l0 {l : List S49} (hv : vld l = true) : ∀ (n i k : Nat) (acc : List Int), i + n = l.length → acc.length = i → 1110 + n ≤ k →
    response_All.l0 k l acc (l.length : Int) (i : Int) = some (if lateFrom l i = true then ([], 21) else (acc ++ timesFrom l i, 0)) := by
  have h20 := (vld_of hv).1
  intro n
  induction n with
  | zero =>
    intro i k acc hi ha hk
    obtain ⟨k, rfl⟩ : ∃ m, k = m + 1 := ⟨k - 1, by omega⟩
    simp only [response_All.l0]
    rw [if_neg (by omega)]
    unfold lateFrom timesFrom
    rw [List.drop_of_length_le (by rw [List.length_range]; omega)]
    simp
  | succ n ih =>
    intro i k acc hi ha hk
    obtain ⟨k, rfl⟩ : ∃ m, k = m + 1 := ⟨k - 1, by omega⟩
    have hkn := known_iff hv (i := (i : Int)) (by omega) (by omega)
    simp only [response_All.l0]
    rw [if_pos (by omega), respV_eq (by omega) hkn]
    simp only [Option.bind_some]
    have e1 : lateFrom l i = ((respV l (i : Int)).2 != 0 || lateFrom l (i + 1)) := by
      unfold lateFrom
      rw [range_drop (by omega), List.any_cons]
    have e2 : timesFrom l i = (respV l (i : Int)).1 :: timesFrom l (i + 1) := by
      unfold timesFrom
      rw [range_drop (by omega), List.map_cons]
    rw [e1, e2]
    rcases respV_e hkn with h | h
    · rw [if_pos h, if_pos (by omega), wrap64_of (x := (i : Int) + 1) (by omega) (by omega), h]
      have b := ih (i + 1) k (acc ++ [(respV l (i : Int)).1]) (by omega) (by simp [ha]) (by omega)
      rw [show ((i + 1 : Nat) : Int) = (i : Int) + 1 by omega] at b
      rw [b]
      simp
    · rw [h]
      simp
theorem all_eq {k : Nat} (hk : 1140 ≤ k) {l : List S49} (hv : vld l = true) : response_All.f k l = some (if lateFrom l 0 = true then ([], 21) else (timesFrom l 0, 0)) := by
  have h20 := (vld_of hv).1
  unfold response_All.f
  rw [cvalid_eq (by omega), hv]
  simp only [Option.bind_some]
  rw [if_pos trivial]
  have := all_l0 hv l.length 0 k [] (by omega) rfl (by omega)
  rw [show ((0 : Nat) : Int) = 0 from rfl, List.nil_append] at this
  exact this
theorem all_no {k : Nat} (hk : 1140 ≤ k) {l : List S49} (hv : vld l = false) : response_All.f k l = some ([], 1) := by
  unfold response_All.f
  rw [cvalid_eq (by omega), hv]
  rfl
end Go.Proofs.Ytcmifojplgmgkaa.Evs
