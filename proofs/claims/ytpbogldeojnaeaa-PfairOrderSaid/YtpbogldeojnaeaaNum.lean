/- The windows of a task, as numbers. No program in sight. -/
set_option linter.unusedSectionVars false
namespace Go.Proofs.Ytpbogldeojnaeaa.Num

def rel (c p i : Int) : Int := (i - 1) * p / c
def dl (c p i : Int) : Int := (i * p + c - 1) / c
def ov (c p i : Int) : Bool := (i * p % c) != 0
/-- The time at which a group that reaches subtask i ends with it; -1: none does. -/
def en (c p i : Int) : Int := if ov c p i = true then (if dl c p i - rel c p i = 3 then dl c p i - 1 else -1) else dl c p i

theorem div_mod (a c : Int) : a / c * c + a % c = a := by
  rw [Int.emod_def, Int.mul_comm]; omega
theorem rel_succ (c p i : Int) : rel c p (i + 1) = i * p / c := by
  unfold rel
  rw [Int.add_sub_cancel]
theorem sub_one_mul' (i p : Int) : (i - 1) * p = i * p - p := by rw [Int.sub_mul, Int.one_mul]

section
variable {c p : Int} (hc : 1 ≤ c) (hp : c ≤ p)
include hc hp
theorem dl_eq (i : Int) : dl c p i = i * p / c + (if ov c p i = true then 1 else 0) := by
  unfold dl ov
  have h1 := div_mod (i * p) c
  have h2 := Int.emod_nonneg (i * p) (show c ≠ 0 by omega)
  have h3 := Int.emod_lt_of_pos (i * p) (show 0 < c by omega)
  generalize hq : i * p / c = q at *
  generalize hr : i * p % c = r at *
  have e : i * p + c - 1 = (r + c - 1) + q * c := by omega
  rw [e, Int.add_mul_ediv_right _ _ (by omega)]
  by_cases h0 : r = 0
  · subst h0
    rw [show (0 + c - 1 : Int) = c - 1 by omega, Int.ediv_eq_zero_of_lt (by omega) (by omega)]
    simp
  · rw [show (r + c - 1 : Int) = (r - 1) + 1 * c by omega, Int.add_mul_ediv_right _ _ (by omega), Int.ediv_eq_zero_of_lt (by omega) (by omega)]
    simp [h0]
    omega
theorem dl_le_iff (i t : Int) : dl c p i ≤ t ↔ i * p ≤ t * c := by
  unfold dl
  rw [show (i * p + c - 1) / c ≤ t ↔ (i * p + c - 1) / c < t + 1 by omega, Int.ediv_lt_iff_lt_mul (by omega), Int.add_mul, Int.one_mul]
  omega
theorem lt_dl_iff (i t : Int) : t < dl c p i ↔ t * c < i * p := by
  have := dl_le_iff hc hp i t
  omega
theorem rel_lt_iff (i t : Int) : rel c p i < t ↔ (i - 1) * p < t * c := by
  unfold rel
  exact Int.ediv_lt_iff_lt_mul (by omega)
theorem le_rel_iff (i t : Int) : t ≤ rel c p i ↔ t * c ≤ (i - 1) * p := by
  unfold rel
  exact Int.le_ediv_iff_mul_le (by omega)
theorem rel_one : rel c p 1 = 0 := by simp [rel]
theorem dl_last : dl c p c = p := by
  rw [dl_eq hc hp]
  have : ov c p c = false := by simp [ov]
  rw [this]
  simp
  exact Int.mul_ediv_cancel_left p (by omega)
theorem ov_last : ov c p c = false := by simp [ov]
theorem rel_nonneg {i : Int} (hi : 1 ≤ i) : 0 ≤ rel c p i := by
  rw [le_rel_iff hc hp]
  have := Int.mul_nonneg (show 0 ≤ i - 1 by omega) (show 0 ≤ p by omega)
  omega
theorem rel_lt_dl (i : Int) : rel c p i < dl c p i := by
  rw [lt_dl_iff hc hp]
  have h := (le_rel_iff hc hp i (rel c p i)).1 (Int.le_refl _)
  rw [sub_one_mul'] at h
  omega
theorem dl_mono {i j : Int} (h : i ≤ j) : dl c p i ≤ dl c p j := by
  rw [dl_le_iff hc hp]
  have h1 := (dl_le_iff hc hp j (dl c p j)).1 (Int.le_refl _)
  have h2 := Int.mul_le_mul_of_nonneg_right h (show 0 ≤ p by omega)
  omega
theorem dl_le_p {i : Int} (h : i ≤ c) : dl c p i ≤ p := by
  have := dl_mono hc hp h
  rwa [dl_last hc hp] at this
theorem dl_pos {i : Int} (hi : 1 ≤ i) : 1 ≤ dl c p i := by
  have h1 := rel_nonneg hc hp hi
  have h2 := rel_lt_dl hc hp i
  omega
end

section
variable {c p : Int} (hc : 1 ≤ c) (hp : c < p) (h2 : p ≤ 2 * c)
include hc hp
theorem dl_strict {i j : Int} (h : i < j) : dl c p i < dl c p j := by
  have hp' : c ≤ p := by omega
  rw [lt_dl_iff hc hp']
  have h1 : dl c p i * c ≤ i * p + c - 1 := by
    have : dl c p i * c ≤ (i * p + c - 1) := by
      unfold dl
      exact Int.ediv_mul_le _ (by omega)
    exact this
  have h3 := Int.mul_le_mul_of_nonneg_right (show i + 1 ≤ j by omega) (show 0 ≤ p by omega)
  rw [Int.add_mul, Int.one_mul] at h3
  omega
include h2
theorem len_lo (i : Int) : rel c p i + 2 ≤ dl c p i := by
  have hp' : c ≤ p := by omega
  have h := (le_rel_iff hc hp' i (rel c p i)).1 (Int.le_refl _)
  rw [sub_one_mul'] at h
  have : rel c p i + 1 < dl c p i := by
    rw [lt_dl_iff hc hp', Int.add_mul, Int.one_mul]
    omega
  omega
theorem len_hi (i : Int) : dl c p i ≤ rel c p i + 3 := by
  have hp' : c ≤ p := by omega
  have h := (rel_lt_iff hc hp' i (rel c p i + 1)).1 (by omega)
  rw [sub_one_mul', Int.add_mul, Int.one_mul] at h
  rw [dl_le_iff hc hp', Int.add_mul]
  omega
/-- A window that does not overlap the next one has two slots. -/
theorem len_plain {i : Int} (h : ov c p i = false) : dl c p i ≤ rel c p i + 2 := by
  have hp' : c ≤ p := by omega
  have hm : i * p % c = 0 := by simpa [ov] using h
  have he := dl_eq hc hp' i
  rw [h] at he
  have hk : i * p / c * c = i * p := by have := div_mod (i * p) c; omega
  have hd : dl c p i * c = i * p := by rw [he]; simpa using hk
  have hlt : dl c p i - 3 < rel c p i := by
    have := (le_rel_iff hc hp' i (dl c p i - 2)).2 (by rw [sub_one_mul', Int.sub_mul]; omega)
    omega
  omega
theorem en_le_dl (i : Int) (hi : 1 ≤ i) : en c p i ≤ dl c p i := by
  have := dl_pos hc (show c ≤ p by omega) hi
  unfold en
  split
  · split <;> omega
  · omega
theorem en_ge (i : Int) (h0 : 0 ≤ en c p i) : dl c p i - 1 ≤ en c p i := by
  unfold en at *
  split
  · rename_i h
    rw [if_pos h] at h0
    split
    · omega
    · rename_i h3
      rw [if_neg h3] at h0
      omega
  · omega
theorem en_mono {i j : Int} (hi : 1 ≤ i) (hij : i ≤ j) (h0 : 0 ≤ en c p j) : en c p i ≤ en c p j := by
  rcases Int.lt_or_eq_of_le hij with h | h
  · have h1 := en_le_dl hc hp h2 i hi
    have h3 := dl_strict hc hp h
    have h4 := en_ge hc hp h2 j h0
    omega
  · rw [h]; omega
end

/-- g is the group deadline of subtask i. -/
def IsGrp (c p i g : Int) : Prop := ∃ m, i ≤ m ∧ m ≤ c ∧ g = en c p m ∧ dl c p i ≤ en c p m ∧ ∀ j, i ≤ j → j < m → en c p j < dl c p i
theorem IsGrp.unique {c p i g g' : Int} (h : IsGrp c p i g) (h' : IsGrp c p i g') : g = g' := by
  obtain ⟨m, h1, h2, rfl, h4, h5⟩ := h
  obtain ⟨m', k1, k2, rfl, k4, k5⟩ := h'
  rcases Int.lt_trichotomy m m' with h | h | h
  · have := k5 m h1 h; omega
  · rw [h]
  · have := h5 m' k1 h; omega
section
variable {c p : Int} (hc : 1 ≤ c) (hp : c < p) (h2 : p ≤ 2 * c)
include hc hp h2
theorem IsGrp.le_p {i g : Int} (hi : 1 ≤ i) (h : IsGrp c p i g) : g ≤ p := by
  obtain ⟨m, h1, h3, rfl, h4, h5⟩ := h
  have := en_le_dl hc hp h2 m (by omega)
  have := dl_le_p hc (show c ≤ p by omega) h3
  omega
omit hc hp h2 in
theorem IsGrp.ge_dl {i g : Int} (h : IsGrp c p i g) : dl c p i ≤ g := by
  obtain ⟨m, h1, h3, rfl, h4, h5⟩ := h
  exact h4
omit hp h2 in
theorem IsGrp.last {g : Int} (hcp : c ≤ p) (h : IsGrp c p c g) : g = p := by
  obtain ⟨m, h1, h3, rfl, h4, h5⟩ := h
  obtain rfl : m = c := by omega
  simp [en, ov_last hc hcp, dl_last hc hcp]
theorem IsGrp.step {i g g' : Int} (hi : 1 ≤ i) (h : IsGrp c p i g) (h' : IsGrp c p (i + 1) g') : g ≤ g' := by
  obtain ⟨m, h1, h3, rfl, h4, h5⟩ := h
  obtain ⟨m', k1, k3, rfl, k4, k5⟩ := h'
  have hd := dl_mono hc (show c ≤ p by omega) (show i ≤ i + 1 by omega)
  have hpos := dl_pos hc (show c ≤ p by omega) hi
  have : m ≤ m' := by
    rcases Int.lt_or_le m' m with hlt | hle
    · have := h5 m' (by omega) hlt; omega
    · exact hle
  exact en_mono hc hp h2 (by omega) this (by omega)
/-- What the reference asks of a time t. -/
def Hit (c p t : Int) : Prop := ∃ k, 1 ≤ k ∧ k ≤ c ∧ ((t = dl c p k ∧ ov c p k = false) ∨ (t + 1 = dl c p k ∧ dl c p k - rel c p k = 3))
theorem IsGrp.hit {i g : Int} (hi : 1 ≤ i) (h : IsGrp c p i g) : Hit c p g := by
  obtain ⟨m, h1, h3, rfl, h4, h5⟩ := h
  have hpos := dl_pos hc (show c ≤ p by omega) hi
  refine ⟨m, by omega, h3, ?_⟩
  unfold en at h4 ⊢
  by_cases ho : ov c p m = true
  · rw [if_pos ho] at h4 ⊢
    by_cases hl : dl c p m - rel c p m = 3
    · rw [if_pos hl] at h4 ⊢
      exact .inr ⟨by omega, hl⟩
    · rw [if_neg hl] at h4; omega
  · rw [if_neg ho] at h4 ⊢
    exact .inl ⟨rfl, by simpa using ho⟩
theorem IsGrp.first {i g t : Int} (hi : 1 ≤ i) (h : IsGrp c p i g) (ht : dl c p i ≤ t) (htg : t < g) : ¬ Hit c p t := by
  rintro ⟨k, k1, k2, hk⟩
  have hpos := dl_pos hc (show c ≤ p by omega) hi
  have he : en c p k = t := by
    unfold en
    rcases hk with ⟨rfl, ho⟩ | ⟨h1, hl⟩
    · simp [ho]
    · by_cases ho : ov c p k = true
      · rw [if_pos ho, if_pos hl]; omega
      · have := len_plain hc hp h2 (i := k) (by simpa using ho)
        omega
  obtain ⟨m, h1, h3, rfl, h4, h5⟩ := h
  have hik : i ≤ k := by
    rcases Int.lt_or_le k i with hlt | hle
    · have := en_le_dl hc hp h2 k k1
      have := dl_strict hc hp hlt
      omega
    · exact hle
  have hmk : m ≤ k := by
    rcases Int.lt_or_le k m with hlt | hle
    · have := h5 k hik hlt; omega
    · exact hle
  have := en_mono hc hp h2 (show 1 ≤ m by omega) hmk (by omega)
  omega
end
/-- Scaling. -/
theorem rel_scale {c p k : Int} (hk : 0 < k) (i : Int) : rel (k * c) (k * p) i = rel c p i := by
  unfold rel
  rw [show (i - 1) * (k * p) = k * ((i - 1) * p) by rw [Int.mul_left_comm], Int.mul_ediv_mul_of_pos _ _ hk]
theorem ov_scale {c p k : Int} (hk : 0 < k) (i : Int) : ov (k * c) (k * p) i = ov c p i := by
  unfold ov
  rw [show i * (k * p) = k * (i * p) by rw [Int.mul_left_comm], Int.mul_emod_mul_of_pos _ _ hk]
  by_cases h : i * p % c = 0
  · rw [h, Int.mul_zero]
  · have : k * (i * p % c) ≠ 0 := Int.mul_ne_zero (by omega) h
    rw [bne_iff_ne.2 this, bne_iff_ne.2 h]
theorem dl_scale {c p k : Int} (hc : 1 ≤ c) (hp : c ≤ p) (hk : 0 < k) (i : Int) : dl (k * c) (k * p) i = dl c p i := by
  have h1 : 1 ≤ k * c := by
    have := Int.mul_le_mul (show 1 ≤ k by omega) hc (by omega) (by omega)
    omega
  have h2 : k * c ≤ k * p := Int.mul_le_mul_of_nonneg_left hp (by omega)
  rw [dl_eq h1 h2, dl_eq hc hp, ov_scale hk]
  congr 1
  rw [show i * (k * p) = k * (i * p) by rw [Int.mul_left_comm], Int.mul_ediv_mul_of_pos _ _ hk]
theorem en_scale {c p k : Int} (hc : 1 ≤ c) (hp : c ≤ p) (hk : 0 < k) (i : Int) : en (k * c) (k * p) i = en c p i := by
  unfold en
  rw [dl_scale hc hp hk, rel_scale hk, ov_scale hk]
theorem IsGrp.scale {c p k i g g' : Int} (hc : 1 ≤ c) (hp : c ≤ p) (hk : 0 < k) (h : IsGrp c p i g) (h' : IsGrp (k * c) (k * p) i g') : g = g' := by
  obtain ⟨m, h1, h2, rfl, h4, h5⟩ := h
  obtain ⟨m', k1, k2, rfl, k4, k5⟩ := h'
  rw [dl_scale hc hp hk, en_scale hc hp hk] at k4
  rw [en_scale hc hp hk]
  rcases Int.lt_trichotomy m m' with h | h | h
  · have := k5 m h1 h
    rw [dl_scale hc hp hk, en_scale hc hp hk] at this
    omega
  · rw [h]
  · have := h5 m' k1 h; omega
end Go.Proofs.Ytpbogldeojnaeaa.Num
