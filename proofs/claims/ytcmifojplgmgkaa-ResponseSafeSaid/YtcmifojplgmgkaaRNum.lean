/- Response times of tasks, as numbers. -/
import Derived.Test.YtcmifojplgmgkaaP8
set_option linter.unusedVariables false
set_option linter.unusedSectionVars false
namespace Go.Proofs.Ytcmifojplgmgkaa.Evs
open Go.RowKit Go.Proofs.Ytcmifojplgmgkaa.P Go.Proofs.YtcmifojplgmgkaaW.PrintWords Go.Proofs.YtcmifojplgmgkaaW.PrintMore
/-- How many releases of a task of this period fall into a window. -/
def cdiv (w p : Int) : Int := (w + p - 1) / p
theorem cdiv_le_iff {w p t : Int} (hp : 1 ≤ p) : cdiv w p ≤ t ↔ w ≤ t * p := by
  unfold cdiv
  rw [show (w + p - 1) / p ≤ t ↔ (w + p - 1) / p < t + 1 by omega, Int.ediv_lt_iff_lt_mul (by omega), Int.add_mul, Int.one_mul]
  omega
theorem cdiv_self {w p : Int} (hp : 1 ≤ p) : w ≤ cdiv w p * p := (cdiv_le_iff hp).1 (Int.le_refl _)
theorem cdiv_nonneg {w p : Int} (hw : 0 ≤ w) (hp : 1 ≤ p) : 0 ≤ cdiv w p := Int.ediv_nonneg (by omega) (by omega)
theorem cdiv_zero {p : Int} (hp : 1 ≤ p) : cdiv 0 p = 0 := by
  unfold cdiv
  exact Int.ediv_eq_zero_of_lt (by omega) (by omega)
theorem cdiv_mono {v w p : Int} (hp : 1 ≤ p) (h : v ≤ w) : cdiv v p ≤ cdiv w p := by
  rw [cdiv_le_iff hp]
  have := cdiv_self (w := w) hp
  omega
theorem cdiv_add {v w p : Int} (hp : 1 ≤ p) : cdiv (v + w) p ≤ cdiv v p + cdiv w p := by
  rw [cdiv_le_iff hp, Int.add_mul]
  have := cdiv_self (w := v) hp
  have := cdiv_self (w := w) hp
  omega
theorem cdiv_le {w p : Int} (hw : 0 ≤ w) (hp : 1 ≤ p) : cdiv w p ≤ w := by
  rw [cdiv_le_iff hp]
  have := Int.mul_le_mul_of_nonneg_left hp hw
  omega
theorem cdiv_pos {w p : Int} (hw : 1 ≤ w) (hp : 1 ≤ p) : 1 ≤ cdiv w p := by
  rcases Int.lt_or_le (cdiv w p) 1 with h | h
  · have := (cdiv_le_iff (w := w) (t := 0) hp).1 (by omega)
    omega
  · exact h
/-- The work of the tasks in a window. -/
def isum : List S49 → Int → Int
  | [], _ => 0
  | t :: r, w => t.f0 * cdiv w t.f1 + isum r w
/-- Tasks with a cost and a period. -/
def Pos (l : List S49) : Prop := ∀ t ∈ l, 1 ≤ t.f0 ∧ t.f0 ≤ 1000 ∧ 1 ≤ t.f1 ∧ t.f1 ≤ 1000
theorem Pos.tail {t : S49} {r : List S49} (h : Pos (t :: r)) : Pos r := fun x hx => h x (List.mem_cons_of_mem _ hx)
theorem Pos.head {t : S49} {r : List S49} (h : Pos (t :: r)) : 1 ≤ t.f0 ∧ t.f0 ≤ 1000 ∧ 1 ≤ t.f1 ∧ t.f1 ≤ 1000 := h t List.mem_cons_self
theorem Pos.of_vld {l : List S49} (h : vld l = true) : Pos l := fun t ht => by
  obtain ⟨k1, k2, k3, k4, _⟩ := vldT_of ((vld_of h).2 t ht)
  exact ⟨k1, k2, k3, k4⟩
theorem Pos.take {l : List S49} (h : Pos l) (n : Nat) : Pos (l.take n) := fun t ht => h t (List.mem_of_mem_take ht)
theorem isum_mono {v w : Int} (h : v ≤ w) : ∀ {l : List S49}, Pos l → isum l v ≤ isum l w
  | [], _ => Int.le_refl _
  | t :: r, hp => by
    obtain ⟨h1, h2, h3, h4⟩ := hp.head
    have := isum_mono h hp.tail
    have := Int.mul_le_mul_of_nonneg_left (cdiv_mono h3 h) (show 0 ≤ t.f0 by omega)
    unfold isum
    omega
theorem isum_zero : ∀ {l : List S49}, Pos l → isum l 0 = 0
  | [], _ => rfl
  | t :: r, hp => by
    obtain ⟨h1, h2, h3, h4⟩ := hp.head
    unfold isum
    rw [isum_zero hp.tail, cdiv_zero h3]
    omega
theorem isum_nonneg {w : Int} (hw : 0 ≤ w) {l : List S49} (hp : Pos l) : 0 ≤ isum l w := by
  have := isum_mono hw hp
  rwa [isum_zero hp] at this
theorem isum_add {v w : Int} : ∀ {l : List S49}, Pos l → isum l (v + w) ≤ isum l v + isum l w
  | [], _ => by simp [isum]
  | t :: r, hp => by
    obtain ⟨h1, h2, h3, h4⟩ := hp.head
    have := isum_add (v := v) (w := w) hp.tail
    have := Int.mul_le_mul_of_nonneg_left (cdiv_add (v := v) (w := w) h3) (show 0 ≤ t.f0 by omega)
    rw [Int.mul_add] at this
    unfold isum
    omega
theorem term_bd {t : S49} {w : Int} (hw : 0 ≤ w) (hw2 : w ≤ 100000) (h1 : 1 ≤ t.f0) (h2 : t.f0 ≤ 1000) (h3 : 1 ≤ t.f1) : 0 ≤ t.f0 * cdiv w t.f1 ∧ t.f0 * cdiv w t.f1 ≤ 100000000 := by
  have a := cdiv_nonneg hw h3
  have b := cdiv_le hw h3
  have c := Int.mul_nonneg (show 0 ≤ t.f0 by omega) a
  have d := Int.mul_le_mul h2 (show cdiv w t.f1 ≤ 100000 by omega) a (show (0 : Int) ≤ 1000 by omega)
  omega
theorem isum_bd {w : Int} (hw : 0 ≤ w) (hw2 : w ≤ 100000) : ∀ {l : List S49}, Pos l → isum l w ≤ 100000000 * l.length
  | [], _ => by simp [isum]
  | t :: r, hp => by
    obtain ⟨h1, h2, h3, h4⟩ := hp.head
    have := isum_bd hw hw2 hp.tail
    have := (term_bd hw hw2 h1 h2 h3).2
    unfold isum
    rw [List.length_cons]
    omega
theorem isum_append (a b : List S49) (w : Int) : isum (a ++ b) w = isum a w + isum b w := by
  induction a with
  | nil => simp [isum]
  | cons t r ih => simp only [List.cons_append, isum, ih]; omega
/-! The interference -/
def known (l : List S49) (i : Int) : Bool := vld l && decide (0 ≤ i ∧ i < l.length)
theorem known_of_eq {l : List S49} {i : Int} (h : known l i = true) : vld l = true ∧ 0 ≤ i ∧ i < l.length := by
  unfold known at h
  rw [Bool.and_eq_true] at h
  exact ⟨h.1, of_decide_eq_true h.2⟩
theorem known_eq {k : Nat} (hk : 40 ≤ k) (l : List S49) (i : Int) : response_known.f k l i = some (known l i) := by
  unfold response_known.f known
  rw [cvalid_eq hk]
  simp only [Option.bind_some]
  by_cases hv : vld l = true
  · rw [if_pos hv, hv, Bool.true_and]
    by_cases h0 : i ≥ 0
    · rw [if_pos h0]
      congr 1
      exact decide_eq_decide.2 ⟨fun h => ⟨h0, h⟩, fun h => h.2⟩
    · rw [if_neg h0, decide_eq_false (by omega)]
  · rw [if_neg hv]
    have : vld l = false := by simpa using hv
    rw [this, Bool.false_and]
theorem interf_l0 {w : Int} (hw : 0 ≤ w) (hw2 : w ≤ 100000) (l : List S49) (hp : Pos l) (h20 : l.length ≤ 20) : ∀ (n i : Nat) (k : Nat) (s : Int), i + n = l.length → n + 2 ≤ k → 0 ≤ s → s ≤ 100000000 * i →
    response_Interference.l0 k w s l (l.length : Int) (i : Int) = some (s + isum (l.drop i) w) := by
  intro n
  induction n with
  | zero =>
    intro i k s hi hk s0 s1
    obtain ⟨k, rfl⟩ : ∃ m, k = m + 1 := ⟨k - 1, by omega⟩
    simp only [response_Interference.l0]
    rw [if_neg (by omega), List.drop_of_length_le (by omega)]
    simp [isum]
  | succ n ih =>
    intro i k s hi hk s0 s1
    obtain ⟨k, rfl⟩ : ∃ m, k = m + 1 := ⟨k - 1, by omega⟩
    have hil : i < l.length := by omega
    obtain ⟨h1, h2, h3, h4⟩ := hp l[i] (List.getElem_mem _)
    obtain ⟨b1, b2⟩ := term_bd hw hw2 h1 h2 h3
    have c0 := cdiv_nonneg hw h3
    have c1 := cdiv_le hw h3
    simp only [response_Interference.l0]
    rw [if_pos (by omega), if_pos (by omega), if_pos (by omega), rd49_at l i hil, if_neg (by omega), wrap64_of (x := w + l[i].f1) (by omega) (by omega), wrap64_of (x := w + l[i].f1 - 1) (by omega) (by omega),
      Int.tdiv_eq_ediv_of_nonneg (by omega), show (w + l[i].f1 - 1) / l[i].f1 = cdiv w l[i].f1 from rfl, wrap64_of (x := cdiv w l[i].f1) (by omega) (by omega), wrap64_of (x := l[i].f0 * cdiv w l[i].f1) (by omega) (by omega),
      wrap64_of (x := s + l[i].f0 * cdiv w l[i].f1) (by omega) (by omega), wrap64_of (x := (i : Int) + 1) (by omega) (by omega), List.drop_eq_getElem_cons hil]
    have := ih (i + 1) k (s + l[i].f0 * cdiv w l[i].f1) (by omega) (by omega) (by omega) (by omega)
    rw [show ((i + 1 : Nat) : Int) = (i : Int) + 1 by omega] at this
    rw [this, show isum (l[i] :: l.drop (i + 1)) w = l[i].f0 * cdiv w l[i].f1 + isum (l.drop (i + 1)) w from rfl]
    congr 1
    omega
def interf (l : List S49) (i w : Int) : Int := isum (l.take i.toNat) w
theorem interf_eq {k : Nat} (hk : 42 ≤ k) {l : List S49} {i w : Int} (hkn : known l i = true) (hw : 0 ≤ w) (hw2 : w ≤ 100000) : response_Interference.f k l i w = some (interf l i w) := by
  obtain ⟨hv, i0, i1⟩ := known_of_eq hkn
  have h20 := (vld_of hv).1
  unfold response_Interference.f
  rw [known_eq (by omega), hkn]
  simp only [Option.bind_some]
  rw [if_pos trivial, if_neg (by omega), decide_eq_false (by omega)]
  obtain ⟨k, rfl⟩ : ∃ m, k = m + 1 := ⟨k - 1, by omega⟩
  simp only [response_Interference.j0]
  rw [if_neg (by simp), if_pos i0, if_pos (by omega)]
  simp only [Option.bind_some]
  have hl : (l.take i.toNat).length = i.toNat := by rw [List.length_take]; omega
  have := interf_l0 hw hw2 (l.take i.toNat) ((Pos.of_vld hv).take _) (by omega) (l.take i.toNat).length 0 k 0 (by omega) (by omega) (by omega) (by omega)
  rw [List.drop_zero, Int.zero_add] at this
  exact this
theorem interf_no {k : Nat} (hk : 42 ≤ k) {l : List S49} {i w : Int} (h : ¬ (known l i = true ∧ 0 ≤ w ∧ w ≤ 100000)) : response_Interference.f k l i w = some (-1) := by
  have hj : response_Interference.j0 k l i w true = some (-1) := by
    obtain ⟨k, rfl⟩ : ∃ m, k = m + 1 := ⟨k - 1, by omega⟩
    simp only [response_Interference.j0]
    rw [if_pos trivial]
  unfold response_Interference.f
  rw [known_eq (by omega)]
  simp only [Option.bind_some]
  by_cases hkn : known l i = true
  · rw [if_pos hkn]
    by_cases hw : w < 0
    · rw [if_pos hw]; exact hj
    · rw [if_neg hw, decide_eq_true (show w > 100000 from by
        rcases Int.lt_or_le 100000 w with h1 | h1
        · exact h1
        · exact absurd ⟨hkn, by omega, h1⟩ h)]
      exact hj
  · rw [if_neg hkn]; exact hj
theorem interf_mono {l : List S49} (hp : Pos l) (i : Int) {v w : Int} (h : v ≤ w) : interf l i v ≤ interf l i w := isum_mono h (hp.take _)
theorem interf_nonneg {l : List S49} (hp : Pos l) (i : Int) {w : Int} (h : 0 ≤ w) : 0 ≤ interf l i w := isum_nonneg h (hp.take _)
theorem interf_bd {l : List S49} (hp : Pos l) (h20 : l.length ≤ 20) (i : Int) {w : Int} (h : 0 ≤ w) (h2 : w ≤ 100000) : interf l i w ≤ 2000000000 := by
  have := isum_bd h h2 (hp.take i.toNat)
  have : (l.take i.toNat).length ≤ 20 := by rw [List.length_take]; omega
  unfold interf
  omega
/-! The blocking -/
theorem block_eq {k : Nat} (hk : 40 ≤ k) {l : List S49} {i : Int} (hkn : known l i = true) : response_Blocking.f k l i = some (blockV l i) := by
  unfold response_Blocking.f
  rw [known_eq hk, hkn]
  rfl
theorem block_no {k : Nat} (hk : 40 ≤ k) {l : List S49} {i : Int} (hkn : known l i = false) : response_Blocking.f k l i = some (-1) := by
  unfold response_Blocking.f
  rw [known_eq hk, hkn]
  rfl
theorem secMax_bd (l : List S49) (task : Int) : ∀ (ss : List S68) (m : Int), 0 ≤ m → m ≤ 1000 → (∀ s ∈ ss, 0 ≤ s.f1 ∧ s.f1 < s.f2 ∧ s.f2 ≤ 1000) → m ≤ secMax l task m ss ∧ secMax l task m ss ≤ 1000
  | [], m, m0, m1, _ => by unfold secMax; simp; omega
  | s :: r, m, m0, m1, h => by
    have hs := h s List.mem_cons_self
    have hr : ∀ x ∈ r, 0 ≤ x.f1 ∧ x.f1 < x.f2 ∧ x.f2 ≤ 1000 := fun x hx => h x (List.mem_cons_of_mem _ hx)
    have e : secMax l task m (s :: r) = secMax l task (if ceilF l s.f0 ≤ task then mx m (s.f2 - s.f1 - 1) else m) r := rfl
    rw [e]
    by_cases hc : ceilF l s.f0 ≤ task
    · rw [if_pos hc]
      have hm : m ≤ mx m (s.f2 - s.f1 - 1) ∧ mx m (s.f2 - s.f1 - 1) ≤ 1000 := by unfold mx; split <;> omega
      have := secMax_bd l task r (mx m (s.f2 - s.f1 - 1)) (by omega) hm.2 hr
      omega
    · rw [if_neg hc]
      exact secMax_bd l task r m m0 m1 hr
theorem blockFold_bd (l : List S49) (task : Int) : ∀ (ts : List S49) (m : Int), 0 ≤ m → m ≤ 1000 → (∀ t ∈ ts, vldT t = true) → m ≤ ts.foldl (fun m t => secMax l task m t.f3) m ∧ ts.foldl (fun m t => secMax l task m t.f3) m ≤ 1000
  | [], m, m0, m1, _ => by simp; omega
  | t :: r, m, m0, m1, h => by
    obtain ⟨k1, k2, _, _, _, _, k7, k8⟩ := vldT_of (h t List.mem_cons_self)
    have hs := secMax_bd l task t.f3 m m0 m1 (fun s hs => by have := secB_bd (Int.le_refl 0) k8 s hs; omega)
    rw [List.foldl_cons]
    have := blockFold_bd l task r (secMax l task m t.f3) (by omega) hs.2 (fun x hx => h x (List.mem_cons_of_mem _ hx))
    omega
theorem blockV_bd {l : List S49} (hv : vld l = true) (i : Int) : 0 ≤ blockV l i ∧ blockV l i ≤ 1000 := by
  unfold blockV
  have := blockFold_bd l i (l.drop (i.toNat + 1)) 0 (by omega) (by omega) (fun t ht => (vld_of hv).2 t (List.mem_of_mem_drop ht))
  omega
/-! The response time -/
def ownV (l : List S49) (i : Int) : Int := (rd_T49 l i).f0 + blockV l i
/-- One round of the iteration. -/
def nextV (l : List S49) (i w : Int) : Int := ownV l i + interf l i w
/-- What a response time is: the least solution; or there is none up to the deadline. -/
def IsResp (l : List S49) (i : Int) (r : Int × Int) : Prop :=
  (r.2 = 0 ∧ 1 ≤ r.1 ∧ r.1 ≤ (rd_T49 l i).f2 ∧ nextV l i r.1 = r.1 ∧ ∀ w, 0 ≤ w → nextV l i w = w → r.1 ≤ w) ∨
  (r = (0, 21) ∧ ∀ w, 0 ≤ w → nextV l i w = w → (rd_T49 l i).f2 < w)
theorem IsResp.unique {l : List S49} {i : Int} {r s : Int × Int} (h : IsResp l i r) (k : IsResp l i s) : r = s := by
  rcases h with ⟨h1, h2, h3, h4, h5⟩ | ⟨rfl, h1⟩
  · rcases k with ⟨k1, k2, k3, k4, k5⟩ | ⟨rfl, k1⟩
    · have := h5 s.1 (by omega) k4
      have := k5 r.1 (by omega) h4
      exact Prod.ext (by omega) (by omega)
    · have := k1 r.1 (by omega) h4
      omega
  · rcases k with ⟨k1, k2, k3, k4, k5⟩ | ⟨rfl, k1⟩
    · have := h1 s.1 (by omega) k4
      omega
    · rfl
section
variable {l : List S49} {i : Int} (hkn : known l i = true)
include hkn
theorem task_bd : 1 ≤ (rd_T49 l i).f0 ∧ (rd_T49 l i).f0 ≤ 1000 ∧ 1 ≤ (rd_T49 l i).f1 ∧ (rd_T49 l i).f1 ≤ 1000 ∧ 1 ≤ (rd_T49 l i).f2 ∧ (rd_T49 l i).f2 ≤ (rd_T49 l i).f1 := by
  obtain ⟨hv, i0, i1⟩ := known_of_eq hkn
  obtain ⟨k1, k2, k3, k4, k5, k6, _⟩ := vldT_of ((vld_of hv).2 _ (rd49_mem i0 i1))
  exact ⟨k1, k2, k3, k4, k5, k6⟩
theorem ownV_bd : 1 ≤ ownV l i ∧ ownV l i ≤ 2000 := by
  obtain ⟨hv, i0, i1⟩ := known_of_eq hkn
  have := task_bd hkn
  have := blockV_bd hv i
  unfold ownV
  omega
theorem nextV_ge {w : Int} (hw : 0 ≤ w) : ownV l i ≤ nextV l i w := by
  obtain ⟨hv, i0, i1⟩ := known_of_eq hkn
  have := interf_nonneg (Pos.of_vld hv) i hw
  unfold nextV
  omega
theorem nextV_mono {v w : Int} (h : v ≤ w) : nextV l i v ≤ nextV l i w := by
  obtain ⟨hv, i0, i1⟩ := known_of_eq hkn
  have := interf_mono (Pos.of_vld hv) i h
  unfold nextV
  omega
theorem resp_l0 : ∀ (n : Nat) (k : Nat) (r : Int), 1 ≤ r → ((rd_T49 l i).f2 - r).toNat ≤ n → n + 60 ≤ k → r ≤ nextV l i r → (∀ w, 0 ≤ w → nextV l i w = w → r ≤ w) →
    ∃ res, response_Response.l0 k l i (ownV l i) r = some res ∧ IsResp l i res := by
  obtain ⟨hv, i0, i1⟩ := known_of_eq hkn
  obtain ⟨_, _, t3, t4, t5, t6⟩ := task_bd hkn
  have ho := ownV_bd hkn
  have h20 := (vld_of hv).1
  intro n
  induction n with
  | zero =>
    intro k r r1 hn hk hup hlo
    obtain ⟨k, rfl⟩ : ∃ m, k = m + 1 := ⟨k - 1, by omega⟩
    simp only [response_Response.l0]
    rw [if_pos i0, if_pos i1]
    by_cases hr : r ≤ (rd_T49 l i).f2
    · have hib := interf_bd (Pos.of_vld hv) h20 i (show 0 ≤ r by omega) (show r ≤ 100000 by omega)
      have hin := interf_nonneg (Pos.of_vld hv) i (show 0 ≤ r by omega)
      have e : ownV l i + interf l i r = nextV l i r := rfl
      rw [if_pos hr, interf_eq (by omega) hkn (by omega) (by omega)]
      simp only [Option.bind_some]
      rw [wrap64_of (x := ownV l i + interf l i r) (by omega) (by omega), e]
      by_cases hf : nextV l i r = r
      · rw [if_pos hf]
        exact ⟨(r, 0), rfl, .inl ⟨rfl, r1, hr, hf, hlo⟩⟩
      · rw [if_neg hf]
        obtain ⟨k, rfl⟩ : ∃ m, k = m + 1 := ⟨k - 1, by omega⟩
        simp only [response_Response.l0]
        rw [if_pos i0, if_pos i1, if_neg (by omega)]
        refine ⟨(0, 21), rfl, .inr ⟨rfl, fun w hw hfw => ?_⟩⟩
        have h1 := hlo w hw hfw
        have h2 := nextV_mono hkn h1
        omega
    · rw [if_neg hr]
      exact ⟨(0, 21), rfl, .inr ⟨rfl, fun w hw hfw => by have := hlo w hw hfw; omega⟩⟩
  | succ n ih =>
    intro k r r1 hn hk hup hlo
    obtain ⟨k, rfl⟩ : ∃ m, k = m + 1 := ⟨k - 1, by omega⟩
    simp only [response_Response.l0]
    rw [if_pos i0, if_pos i1]
    by_cases hr : r ≤ (rd_T49 l i).f2
    · have hib := interf_bd (Pos.of_vld hv) h20 i (show 0 ≤ r by omega) (show r ≤ 100000 by omega)
      have hin := interf_nonneg (Pos.of_vld hv) i (show 0 ≤ r by omega)
      have e : ownV l i + interf l i r = nextV l i r := rfl
      rw [if_pos hr, interf_eq (by omega) hkn (by omega) (by omega)]
      simp only [Option.bind_some]
      rw [wrap64_of (x := ownV l i + interf l i r) (by omega) (by omega), e]
      by_cases hf : nextV l i r = r
      · rw [if_pos hf]
        exact ⟨(r, 0), rfl, .inl ⟨rfl, r1, hr, hf, hlo⟩⟩
      · rw [if_neg hf]
        refine ih k (nextV l i r) (by omega) (by omega) (by omega) (nextV_mono hkn hup) (fun w hw hfw => ?_)
        have h1 := hlo w hw hfw
        have h2 := nextV_mono hkn h1
        omega
    · rw [if_neg hr]
      exact ⟨(0, 21), rfl, .inr ⟨rfl, fun w hw hfw => by have := hlo w hw hfw; omega⟩⟩
theorem resp_yes {k : Nat} (hk : 1100 ≤ k) : ∃ res, response_Response.f k l i = some res ∧ IsResp l i res := by
  obtain ⟨hv, i0, i1⟩ := known_of_eq hkn
  obtain ⟨t1, t2, t3, t4, t5, t6⟩ := task_bd hkn
  have ho := ownV_bd hkn
  unfold response_Response.f
  rw [cvalid_eq (by omega), hv]
  simp only [Option.bind_some]
  rw [if_pos trivial, known_eq (by omega), hkn]
  simp only [Option.bind_some]
  rw [if_pos trivial, if_pos i0, if_pos i1, block_eq (by omega) hkn]
  simp only [Option.bind_some]
  have e : (rd_T49 l i).f0 + blockV l i = ownV l i := rfl
  rw [e, wrap64_of (by omega) (by omega)]
  exact resp_l0 hkn 1000 k (ownV l i) (by omega) (by omega) (by omega) (nextV_ge hkn (by omega)) (fun w hw hfw => by have := nextV_ge hkn hw; omega)
end
theorem resp_no {k : Nat} (hk : 1100 ≤ k) {l : List S49} {i : Int} (hkn : known l i = false) : response_Response.f k l i = some (0, if vld l = true then 2 else 1) := by
  unfold response_Response.f
  rw [cvalid_eq (by omega)]
  simp only [Option.bind_some]
  by_cases hv : vld l = true
  · rw [if_pos hv, if_pos hv, known_eq (by omega), hkn]
    rfl
  · rw [if_neg hv, if_neg hv]
end Go.Proofs.Ytcmifojplgmgkaa.Evs
