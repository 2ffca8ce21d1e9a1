/- What the printed functions of the windows answer. -/
import Derived.Test.YtpbogldeojnaeaaP3
import Derived.Test.YtpbogldeojnaeaaNum
set_option linter.unusedVariables false
namespace Go.Proofs.Ytpbogldeojnaeaa.Evs
open Go.RowKit Go.Proofs.Ytpbogldeojnaeaa.P Go.Proofs.YtpbogldeojnaeaaW.PrintWords Num

theorem wrap_of {x : Int} (h : -9223372036854775808 ≤ x) (h2 : x ≤ 9223372036854775807) : wrap64 x = x := by
  unfold wrap64
  omega
def val (c p : Int) : Bool := decide (1 ≤ c ∧ c ≤ p ∧ p ≤ 1000)
theorem val_true {c p : Int} (h : val c p = true) : 1 ≤ c ∧ c ≤ p ∧ p ≤ 1000 := of_decide_eq_true h
theorem val_false {c p : Int} (h : val c p = false) : ¬ (1 ≤ c ∧ c ≤ p ∧ p ≤ 1000) := of_decide_eq_false h
theorem valid_eq {k : Nat} (hk : 2 ≤ k) (b : ByteArray) (c p : Int) : pfair_valid.f k b c p = some (val c p) := by
  obtain ⟨m, rfl⟩ : ∃ m, k = m + 2 := ⟨k - 2, by omega⟩
  have e : taskset_Valid.f (m + 2) [(⟨b, c, p⟩ : S23)] = some (val c p) := by
    unfold taskset_Valid.f val
    simp only [taskset_Valid.l0, List.length_singleton]
    rw [if_pos (by decide), if_pos (by decide), if_pos (by decide)]
    have hr : rd_T23 [(⟨b, c, p⟩ : S23)] 0 = ⟨b, c, p⟩ := rfl
    rw [hr]
    dsimp only
    by_cases h1 : c < 1
    · rw [if_pos h1]; congr 1; symm; exact decide_eq_false (by omega)
    rw [if_neg h1]
    by_cases h2 : p < c
    · rw [if_pos h2]; congr 1; symm; exact decide_eq_false (by omega)
    rw [if_neg h2]
    by_cases h3 : p > 1000
    · rw [if_pos h3]; congr 1; symm; exact decide_eq_false (by omega)
    rw [if_neg h3, if_neg (by unfold wrap64; decide)]
    congr 1
    rw [decide_eq_true (by decide : ((1 : Nat) : Int) ≤ 40)]
    symm
    exact decide_eq_true (by omega)
  unfold pfair_valid.f
  rw [e]
  rfl

theorem mul_bd {i p : Int} (hi : 0 ≤ i) (hi2 : i ≤ 1000) (hp : 0 ≤ p) (hp2 : p ≤ 1000) : 0 ≤ i * p ∧ i * p ≤ 1000000 := by
  have h1 := Int.mul_nonneg hi hp
  have h2 := Int.mul_le_mul hi2 hp2 hp (show (0 : Int) ≤ 1000 by omega)
  omega
theorem deadline_eq (b : ByteArray) {c p i : Int} (hc : 1 ≤ c) (hp : c ≤ p) (hp2 : p ≤ 1000) (hi : 1 ≤ i) (hi2 : i ≤ c) : pfair_deadline.f b c p i = some (dl c p i) := by
  have hb := mul_bd (show 0 ≤ i by omega) (show i ≤ 1000 by omega) (show 0 ≤ p by omega) hp2
  unfold pfair_deadline.f dl
  rw [if_neg (by omega), wrap_of (x := i * p) (by omega) (by omega), wrap_of (x := i * p + c) (by omega) (by omega), wrap_of (x := i * p + c - 1) (by omega) (by omega), Int.tdiv_eq_ediv_of_nonneg (by omega)]
  have hpos := dl_pos hc hp hi
  have hle := dl_le_p hc hp hi2
  unfold dl at hpos hle
  rw [wrap_of (by omega) (by omega)]
theorem rel_le {c p i : Int} (hc : 1 ≤ c) (hp : c ≤ p) (hi2 : i ≤ c) : rel c p i ≤ p := by
  have := rel_lt_dl hc hp i
  have := dl_le_p hc hp hi2
  omega
theorem relw_eq {c p i : Int} (hc : 1 ≤ c) (hp : c ≤ p) (hp2 : p ≤ 1000) (hi : 1 ≤ i) (hi2 : i ≤ c) : wrap64 (Int.tdiv (wrap64 ((wrap64 (i - 1)) * p)) c) = rel c p i := by
  have hb := mul_bd (show 0 ≤ i - 1 by omega) (show i - 1 ≤ 1000 by omega) (show 0 ≤ p by omega) hp2
  rw [wrap_of (x := i - 1) (by omega) (by omega), wrap_of (x := (i - 1) * p) (by omega) (by omega), Int.tdiv_eq_ediv_of_nonneg (by omega)]
  have h1 := rel_nonneg hc hp hi
  have h2 := rel_le hc hp hi2
  unfold rel at h1 h2 ⊢
  rw [wrap_of (by omega) (by omega)]

/-- What Window answers. -/
def win (c p i : Int) : Int × Int × Int × Int := if val c p = true then (if 1 ≤ i ∧ i ≤ c then (i, rel c p i, dl c p i, 0) else (0, 0, 0, 2)) else (0, 0, 0, 1)
theorem win_ok {c p i : Int} (hv : val c p = true) (h1 : 1 ≤ i) (h2 : i ≤ c) : win c p i = (i, rel c p i, dl c p i, 0) := by
  unfold win; rw [if_pos hv, if_pos ⟨h1, h2⟩]
theorem win_no {c p i : Int} (hv : val c p = true) (h : ¬ (1 ≤ i ∧ i ≤ c)) : win c p i = (0, 0, 0, 2) := by
  unfold win; rw [if_pos hv, if_neg h]
theorem win_bad {c p i : Int} (hv : val c p = false) : win c p i = (0, 0, 0, 1) := by
  unfold win; rw [hv]; rfl
theorem window_eq {k : Nat} (hk : 2 ≤ k) (b : ByteArray) (c p i : Int) : pfair_Window.f k b c p i = some (win c p i) := by
  unfold pfair_Window.f
  rw [valid_eq hk]
  simp only [Option.bind_some]
  by_cases hv : val c p = true
  · rw [if_pos hv]
    obtain ⟨h1, h2, h3⟩ := val_true hv
    by_cases hi : i < 1
    · rw [if_pos hi, win_no hv (by omega)]
    rw [if_neg hi]
    by_cases hi2 : i > c
    · rw [if_pos hi2, win_no hv (by omega)]
    rw [if_neg hi2, if_neg (by omega), deadline_eq b h1 h2 h3 (by omega) (by omega)]
    simp only [Option.bind_some]
    rw [relw_eq h1 h2 h3 (by omega) (by omega), win_ok hv (by omega) (by omega)]
  · rw [if_neg hv, win_bad (by simpa using hv)]

def hvy (c p : Int) : Bool := val c p && decide (c < p ∧ p ≤ 2 * c)
theorem hvy_true {c p : Int} (h : hvy c p = true) : 1 ≤ c ∧ c < p ∧ p ≤ 2 * c ∧ p ≤ 1000 ∧ val c p = true := by
  unfold hvy at h
  rw [Bool.and_eq_true] at h
  obtain ⟨h1, h2⟩ := h
  have := val_true h1
  have := of_decide_eq_true h2
  exact ⟨by omega, by omega, by omega, by omega, h1⟩
theorem heavy_eq {k : Nat} (hk : 2 ≤ k) (b : ByteArray) (c p : Int) : pfair_Heavy.f k b c p = some (hvy c p) := by
  unfold pfair_Heavy.f hvy
  rw [valid_eq hk]
  simp only [Option.bind_some]
  by_cases hv : val c p = true
  · obtain ⟨h1, h2, h3⟩ := val_true hv
    rw [if_pos hv, hv, Bool.true_and]
    by_cases hlt : c < p
    · rw [if_pos hlt, wrap_of (by omega) (by omega)]
      congr 1
      apply decide_eq_decide.2
      constructor
      · intro h; exact ⟨hlt, h⟩
      · intro h; exact h.2
    · rw [if_neg hlt]
      congr 1
      symm
      exact decide_eq_false (by omega)
  · rw [if_neg hv]
    have : val c p = false := by simpa using hv
    rw [this]
    rfl
theorem ov_mod {c p i : Int} (_hc : 1 ≤ c) (hp : c ≤ p) (hp2 : p ≤ 1000) (hi : 1 ≤ i) (hi2 : i ≤ c) : ((Int.tmod (wrap64 (i * p)) c) != 0) = ov c p i := by
  have hb := mul_bd (show 0 ≤ i by omega) (show i ≤ 1000 by omega) (show 0 ≤ p by omega) hp2
  rw [wrap_of (by omega) (by omega), Int.tmod_eq_emod_of_nonneg (by omega)]
  rfl
def ovl (c p i : Int) : Bool := val c p && decide (1 ≤ i ∧ i ≤ c) && ov c p i
theorem ovl_ok {c p i : Int} (hv : val c p = true) (h1 : 1 ≤ i) (h2 : i ≤ c) : ovl c p i = ov c p i := by
  unfold ovl
  rw [hv, decide_eq_true (⟨h1, h2⟩ : 1 ≤ i ∧ i ≤ c), Bool.true_and, Bool.true_and]
theorem ovl_no {c p i : Int} (h : ¬ (1 ≤ i ∧ i ≤ c)) : ovl c p i = false := by
  unfold ovl
  rw [decide_eq_false h, Bool.and_false, Bool.false_and]
theorem ovl_bad {c p i : Int} (h : val c p = false) : ovl c p i = false := by
  unfold ovl
  rw [h, Bool.false_and, Bool.false_and]
theorem overlaps_eq {k : Nat} (hk : 2 ≤ k) (b : ByteArray) (c p i : Int) : pfair_Overlaps.f k b c p i = some (ovl c p i) := by
  unfold pfair_Overlaps.f
  rw [window_eq hk]
  simp only [Option.bind_some]
  by_cases hv : val c p = true
  · obtain ⟨h1, h2, h3⟩ := val_true hv
    by_cases hi : 1 ≤ i ∧ i ≤ c
    · rw [win_ok hv hi.1 hi.2]
      dsimp only
      rw [if_pos rfl, if_neg (by omega), ov_mod h1 h2 h3 hi.1 hi.2, ovl_ok hv hi.1 hi.2]
    · rw [win_no hv hi]
      dsimp only
      rw [if_neg (by decide), ovl_no hi]
  · have hv' : val c p = false := by simpa using hv
    rw [win_bad hv']
    dsimp only
    rw [if_neg (by decide), ovl_bad hv']
theorem ends_eq {k : Nat} (hk : 2 ≤ k) (b : ByteArray) {c p i : Int} (hv : val c p = true) (hi : 1 ≤ i) (hi2 : i ≤ c) : pfair_ends.f k b c p i = some (en c p i) := by
  obtain ⟨h1, h2, h3⟩ := val_true hv
  have r1 := rel_nonneg h1 h2 hi
  have r2 := rel_le h1 h2 hi2
  have d1 := dl_pos h1 h2 hi
  have d2 := dl_le_p h1 h2 hi2
  unfold pfair_ends.f en
  rw [window_eq hk, win_ok hv hi hi2]
  simp only [Option.bind_some]
  rw [overlaps_eq hk, ovl_ok hv hi hi2]
  simp only [Option.bind_some]
  by_cases ho : ov c p i = true
  · rw [if_pos ho, if_pos ho, wrap_of (by omega) (by omega)]
    by_cases hl : dl c p i - rel c p i = 3
    · rw [if_pos hl, if_pos hl, wrap_of (by omega) (by omega)]
    · rw [if_neg hl, if_neg hl]
  · rw [if_neg ho, if_neg ho]

/-- Whether a group ends not before d, with one of the subtasks from j to hi. -/
theorem any_eq (b : ByteArray) {c p d hi : Int} (hv : val c p = true) (hh : hi ≤ c) : ∀ (n : Nat) (k : Nat) (j : Int), 1 ≤ j → j ≤ hi + 1 → (hi + 1 - j).toNat = n → n + 3 ≤ k →
    ∃ r, grpAny k b c p d hi j = some r ∧ (r = true ↔ ∃ m, j ≤ m ∧ m ≤ hi ∧ d ≤ en c p m) := by
  intro n
  induction n with
  | zero =>
    intro k j h1 h2 hn hk
    obtain ⟨k, rfl⟩ : ∃ m, k = m + 1 := ⟨k - 1, by omega⟩
    refine ⟨false, by simp only [grpAny]; rw [if_neg (by omega)], ?_⟩
    constructor
    · intro h; cases h
    · rintro ⟨m, h3, h4, _⟩; omega
  | succ n ih =>
    intro k j h1 h2 hn hk
    obtain ⟨k, rfl⟩ : ∃ m, k = m + 1 := ⟨k - 1, by omega⟩
    simp only [grpAny]
    rw [if_pos (by omega), ends_eq (by omega) b hv h1 (by omega)]
    simp only [Option.bind_some]
    by_cases he : en c p j ≥ d
    · rw [if_pos he]
      exact ⟨true, rfl, fun _ => ⟨j, by omega, by omega, he⟩, fun _ => rfl⟩
    · rw [if_neg he]
      obtain ⟨r, hr, hiff⟩ := ih k (j + 1) (by omega) (by omega) (by omega) (by omega)
      refine ⟨r, hr, hiff.trans ⟨?_, ?_⟩⟩
      · rintro ⟨m, h3, h4, h5⟩
        exact ⟨m, by omega, h4, h5⟩
      · rintro ⟨m, h3, h4, h5⟩
        have : m ≠ j := by rintro rfl; exact he h5
        exact ⟨m, by omega, h4, h5⟩
/-- The search: the first subtask that ends a group not before d. -/
theorem search_eq (b : ByteArray) {c p d x : Int} (hv : val c p = true) (hx : 1 ≤ x) (hxc : x ≤ c) : ∀ (n : Nat) (k : Nat) (i j : Int), 0 ≤ i → i ≤ j → j ≤ c - x → (j - i).toNat ≤ n → n + 1100 ≤ k →
    (∀ m, x ≤ m → m < x + i → en c p m < d) → (j < c - x → ∃ m, x ≤ m ∧ m ≤ x + j ∧ d ≤ en c p m) →
    ∃ s, grpSearch k b c p d x i j = some s ∧ 0 ≤ s ∧ s ≤ c - x ∧ (∀ m, x ≤ m → m < x + s → en c p m < d) ∧ (s < c - x → d ≤ en c p (x + s)) := by
  obtain ⟨hc1, hcp, hp2⟩ := val_true hv
  intro n
  induction n with
  | zero =>
    intro k i j h0 h1 h2 hn hk hlo hhi
    obtain ⟨k, rfl⟩ : ∃ m, k = m + 1 := ⟨k - 1, by omega⟩
    refine ⟨i, by simp only [grpSearch]; rw [if_neg (by omega)], h0, by omega, hlo, fun hs => ?_⟩
    obtain ⟨m, h3, h4, h5⟩ := hhi (by omega)
    have : m = x + i := by
      rcases Int.lt_or_le m (x + i) with hlt | hle
      · have := hlo m h3 hlt; omega
      · omega
    rw [← this]; exact h5
  | succ n ih =>
    intro k i j h0 h1 h2 hn hk hlo hhi
    obtain ⟨k, rfl⟩ : ∃ m, k = m + 1 := ⟨k - 1, by omega⟩
    by_cases hij : i < j
    · simp only [grpSearch]
      rw [if_pos hij]
      obtain ⟨r, hr, hiff⟩ := any_eq b (d := d) hv (show x + (i + j) / 2 ≤ c by omega) _ k x hx (by omega) rfl (by omega)
      rw [hr]
      simp only [Option.bind_some]
      cases r with
      | true =>
        rw [if_pos rfl]
        exact ih k i ((i + j) / 2) h0 (by clear hlo hhi hiff; omega) (by clear hlo hhi hiff; omega) (by clear hlo hhi hiff; omega) (by clear hlo hhi hiff; omega) hlo (fun _ => hiff.1 rfl)
      | false =>
        rw [if_neg (by simp)]
        refine ih k ((i + j) / 2 + 1) j (by clear hlo hhi hiff; omega) (by clear hlo hhi hiff; omega) h2 (by clear hlo hhi hiff; omega) (by clear hlo hhi hiff; omega) ?_ hhi
        intro m h3 h4
        rcases Int.lt_or_le (en c p m) d with hlt | hle
        · exact hlt
        · have := hiff.2 ⟨m, h3, by omega, hle⟩
          cases this
    · refine ⟨i, by simp only [grpSearch]; rw [if_neg hij], h0, by omega, hlo, fun hs => ?_⟩
      obtain ⟨m, h3, h4, h5⟩ := hhi (by omega)
      have : m = x + i := by
        rcases Int.lt_or_le m (x + i) with hlt | hle
        · have := hlo m h3 hlt; omega
        · omega
      rw [← this]; exact h5
theorem group_heavy {k : Nat} (hk : 3000 ≤ k) (b : ByteArray) {c p i : Int} (hh : hvy c p = true) (hi : 1 ≤ i) (hi2 : i ≤ c) : ∃ g, pfair_Group.f k b c p i = some g ∧ IsGrp c p i g := by
  obtain ⟨h1, h2, h3, h4, hv⟩ := hvy_true hh
  obtain ⟨s, hs, s0, s1, s2, s3⟩ := search_eq b (d := dl c p i) hv hi hi2 (c - i).toNat k 0 (c - i) (by omega) (by omega) (by omega) (by omega) (by omega) (fun m h3 h4 => by omega) (fun h => by omega)
  refine ⟨en c p (i + s), ?_, i + s, by omega, by omega, rfl, ?_, fun j h3 h4 => s2 j h3 h4⟩
  · unfold pfair_Group.f
    rw [window_eq (by omega), win_ok hv hi hi2]
    simp only [Option.bind_some]
    rw [if_pos trivial, heavy_eq (by omega), hh]
    simp only [Option.bind_some]
    rw [if_pos trivial, if_pos ⟨hi, hi2, by omega⟩, hs]
    simp only [Option.bind_some]
    rw [if_pos ⟨s0, by omega⟩, ends_eq (by omega) b hv (by omega) (by omega)]
  · rcases Int.lt_or_eq_of_le s1 with h | h
    · exact s3 h
    · have : i + s = c := by omega
      rw [this]
      have e : en c p c = p := by simp [en, ov_last h1 (show c ≤ p by omega), dl_last h1 (show c ≤ p by omega)]
      rw [e]
      exact dl_le_p h1 (by omega) hi2
theorem group_light {k : Nat} (hk : 3000 ≤ k) (b : ByteArray) {c p i : Int} (hh : hvy c p = false) : pfair_Group.f k b c p i = some 0 := by
  unfold pfair_Group.f
  rw [window_eq (by omega)]
  simp only [Option.bind_some]
  by_cases h : (win c p i).2.2.2 = 0
  · rw [if_pos h, heavy_eq (by omega), hh]
    simp
  · rw [if_neg h]
theorem group_no {k : Nat} (hk : 3000 ≤ k) (b : ByteArray) {c p i : Int} (hi : ¬ (1 ≤ i ∧ i ≤ c)) : pfair_Group.f k b c p i = some 0 := by
  unfold pfair_Group.f
  rw [window_eq (by omega)]
  simp only [Option.bind_some]
  by_cases hv : val c p = true
  · rw [win_no hv hi]
    dsimp only
    rw [if_neg (by decide)]
  · rw [win_bad (by simpa using hv)]
    dsimp only
    rw [if_neg (by decide)]
end Go.Proofs.Ytpbogldeojnaeaa.Evs
