/- What Before answers, of both texts. -/
import Derived.Test.YtpbogldeojnaeaaRefEvs
import Derived.Test.YtpbogldeojnaeaaP12
set_option linter.unusedVariables false
set_option linter.unusedSectionVars false
namespace Go.Proofs.Ytpbogldeojnaeaa.Evs
open Go.RowKit Go.Proofs.Ytpbogldeojnaeaa.P Go.Proofs.YtpbogldeojnaeaaW.PrintWords Num
/-- The order of deadlines, b bits, group deadlines, numbers. -/
def lex (D1 : Int) (s1 : Bool) (g1 n1 D2 : Int) (s2 : Bool) (g2 n2 : Int) : Bool :=
  if D1 = D2 then (if (s1 != s2) = true then s1 else (if s1 = true then (if g1 = g2 then decide (n1 < n2) else decide (g1 > g2)) else decide (n1 < n2))) else decide (D1 < D2)
theorem lex_irrefl (D : Int) (s : Bool) (g n : Int) : lex D s g n D s g n = false := by
  unfold lex
  rw [if_pos rfl, bne_self_eq_false, if_neg (by simp)]
  cases s <;> simp
theorem lex_total {D1 D2 g1 g2 n1 n2 : Int} {s1 s2 : Bool} (h : n1 ≠ n2) : lex D1 s1 g1 n1 D2 s2 g2 n2 ≠ lex D2 s2 g2 n2 D1 s1 g1 n1 := by
  unfold lex
  by_cases hD : D1 = D2
  · rw [if_pos hD, if_pos hD.symm]
    cases s1 <;> cases s2 <;> simp
    · intro hh
      omega
    · by_cases hg : g1 = g2
      · rw [if_pos hg, if_pos hg.symm]
        simp
        omega
      · rw [if_neg hg, if_neg (fun e => hg e.symm)]
        simp
        omega
  · rw [if_neg hD, if_neg (fun e => hD e.symm)]
    simp
    omega
theorem lex_trans {D1 D2 D3 g1 g2 g3 n1 n2 n3 : Int} {s1 s2 s3 : Bool} (h : lex D1 s1 g1 n1 D2 s2 g2 n2 = true) (k : lex D2 s2 g2 n2 D3 s3 g3 n3 = true) : lex D1 s1 g1 n1 D3 s3 g3 n3 = true := by
  unfold lex at *
  by_cases h12 : D1 = D2
  · by_cases h23 : D2 = D3
    · rw [if_pos h12] at h
      rw [if_pos h23] at k
      rw [if_pos (h12.trans h23)]
      cases s1 <;> cases s2 <;> cases s3 <;> simp at h k ⊢
      · omega
      · by_cases a : g1 = g2
        · rw [if_pos a] at h
          by_cases b : g2 = g3
          · rw [if_pos b] at k
            rw [if_pos (a.trans b)]
            omega
          · rw [if_neg b] at k
            rw [if_neg (by omega)]
            omega
        · rw [if_neg a] at h
          by_cases b : g2 = g3
          · rw [if_pos b] at k
            rw [if_neg (by omega)]
            omega
          · rw [if_neg b] at k
            rw [if_neg (by omega)]
            omega
    · rw [if_neg h23] at k
      rw [if_neg (by omega)]
      simp at k ⊢
      omega
  · rw [if_neg h12] at h
    simp at h
    by_cases h23 : D2 = D3
    · rw [if_neg (by omega)]
      simp
      omega
    · rw [if_neg h23] at k
      simp at k
      rw [if_neg (by omega)]
      simp
      omega

def grpv (c p i : Int) : Int := (pfair_Group.f 3000 ⟨#[]⟩ c p i).getD 0
section
variable {c p i : Int} (hv : val c p = true) (i1 : 1 ≤ i) (i2 : i ≤ c)
include hv i1 i2
theorem grpv_eq {k : Nat} (hk : 3000 ≤ k) (b : ByteArray) : pfair_Group.f k b c p i = some (grpv c p i) := by
  unfold grpv
  by_cases hh : hvy c p = true
  · obtain ⟨g, e, h⟩ := group_heavy hk b hh i1 i2
    obtain ⟨g', e', h'⟩ := group_heavy (Nat.le_refl 3000) ⟨#[]⟩ hh i1 i2
    rw [e, e', h.unique h']
    rfl
  · have hf : hvy c p = false := by simpa using hh
    rw [group_light hk b hf, group_light (Nat.le_refl 3000) ⟨#[]⟩ hf]
    rfl
theorem grpv_ref {k : Nat} (hk : 1013000 ≤ k) : ontimeref45_Group.f k c p i = some (grpv c p i) := by
  obtain ⟨g, e, e', _⟩ := groups_agree hk ⟨#[]⟩ hv i1 i2
  rw [e', ← e, grpv_eq hv i1 i2 (by omega) ⟨#[]⟩]
theorem grpv_bd : 0 ≤ grpv c p i ∧ grpv c p i ≤ 1000 := by
  obtain ⟨g, e, e', h0, h1⟩ := groups_agree (Nat.le_refl 1013000) ⟨#[]⟩ hv i1 i2
  rw [grpv_eq hv i1 i2 (by omega) ⟨#[]⟩] at e
  have := Option.some.inj e
  omega
end
def ag (c p r i : Int) : Int := if hvy c p = true then r + grpv c p i else 0
/-- What Before answers of valid candidates. -/
def bef (n1 c1 p1 r1 i1 n2 c2 p2 r2 i2 : Int) : Bool := lex (r1 + dl c1 p1 i1) (ov c1 p1 i1) (ag c1 p1 r1 i1) n1 (r2 + dl c2 p2 i2) (ov c2 p2 i2) (ag c2 p2 r2 i2) n2
theorem compare_eq (x y : Int) : cmp_Compare_int.f x y = some (if x < y then -1 else if x > y then 1 else 0) := by
  unfold cmp_Compare_int.f cmp_isNaN_int.f
  simp only [Option.bind_some, bne_self_eq_false]
  rw [if_neg (by simp), if_neg (by simp)]
  by_cases h : x < y
  · rw [if_pos h, if_pos h]
  · rw [if_neg h, if_neg h]
    by_cases h2 : x > y
    · rw [if_pos h2, if_pos h2]
    · rw [if_neg h2, if_neg h2]
/-- A candidate within the statements' bounds. -/
structure Fit (n c p r i : Int) : Prop where
  v : val c p = true
  i1 : 1 ≤ i
  i2 : i ≤ c
  r1 : -1099511627776 ≤ r
  r2 : r ≤ 1099511627776
theorem cgroup_eq {k : Nat} (hk : 3000 ≤ k) (b : ByteArray) {n c p r i : Int} (h : Fit n c p r i) : pfair_Candidate_group.f k n b c p r i = some (ag c p r i) := by
  have hb := grpv_bd h.v h.i1 h.i2
  have := h.r1
  have := h.r2
  unfold pfair_Candidate_group.f ag
  rw [heavy_eq (by omega)]
  simp only [Option.bind_some]
  by_cases hh : hvy c p = true
  · rw [if_pos hh, if_pos hh, grpv_eq h.v h.i1 h.i2 hk b]
    simp only [Option.bind_some]
    rw [wrap_of (by omega) (by omega)]
  · rw [if_neg hh, if_neg hh]
theorem before_eq {k : Nat} (hk : 3001 ≤ k) (b1 b2 : ByteArray) {n1 c1 p1 r1 i1 n2 c2 p2 r2 i2 : Int} (h1 : Fit n1 c1 p1 r1 i1) (h2 : Fit n2 c2 p2 r2 i2) :
    pfair_Before.f k n1 b1 c1 p1 r1 i1 n2 b2 c2 p2 r2 i2 = some (bef n1 c1 p1 r1 i1 n2 c2 p2 r2 i2) := by
  obtain ⟨k, rfl⟩ : ∃ m, k = m + 1 := ⟨k - 1, by omega⟩
  obtain ⟨u1, u2, u3⟩ := val_true h1.v
  obtain ⟨v1, v2, v3⟩ := val_true h2.v
  have du := dl_pos u1 u2 h1.i1
  have du2 := dl_le_p u1 u2 h1.i2
  have dv := dl_pos v1 v2 h2.i1
  have dv2 := dl_le_p v1 v2 h2.i2
  have := h1.r1
  have := h1.r2
  have := h2.r1
  have := h2.r2
  unfold pfair_Before.f
  rw [window_eq (by omega), win_ok h1.v h1.i1 h1.i2]
  simp only [Option.bind_some]
  rw [window_eq (by omega), win_ok h2.v h2.i1 h2.i2]
  simp only [Option.bind_some]
  rw [if_pos trivial, bne_self_eq_false]
  simp only [pfair_Before.j0]
  rw [if_neg (by simp), wrap_of (x := r1 + dl c1 p1 i1) (by omega) (by omega), wrap_of (x := r2 + dl c2 p2 i2) (by omega) (by omega), compare_eq]
  simp only [Option.bind_some]
  unfold bef lex
  by_cases hD : r1 + dl c1 p1 i1 = r2 + dl c2 p2 i2
  · rw [if_pos hD, if_neg (show ¬ r1 + dl c1 p1 i1 < r2 + dl c2 p2 i2 by omega), if_neg (show ¬ r1 + dl c1 p1 i1 > r2 + dl c2 p2 i2 by omega), if_pos rfl, overlaps_eq (by omega), ovl_ok h1.v h1.i1 h1.i2]
    simp only [Option.bind_some]
    rw [overlaps_eq (by omega), ovl_ok h2.v h2.i1 h2.i2]
    simp only [Option.bind_some]
    by_cases hs : (ov c1 p1 i1 != ov c2 p2 i2) = true
    · rw [if_pos hs, if_pos hs]
    · rw [if_neg hs, if_neg hs]
      by_cases ht : ov c1 p1 i1 = true
      · rw [if_pos ht, if_pos ht, cgroup_eq (by omega) b1 h1]
        simp only [Option.bind_some]
        rw [cgroup_eq (by omega) b2 h2]
        simp only [Option.bind_some]
        rw [compare_eq]
        simp only [Option.bind_some]
        by_cases hg : ag c1 p1 r1 i1 = ag c2 p2 r2 i2
        · rw [if_pos hg, if_neg (show ¬ ag c1 p1 r1 i1 < ag c2 p2 r2 i2 by omega), if_neg (show ¬ ag c1 p1 r1 i1 > ag c2 p2 r2 i2 by omega), if_pos rfl]
        · rw [if_neg hg]
          by_cases hl : ag c1 p1 r1 i1 < ag c2 p2 r2 i2
          · rw [if_pos hl, if_neg (by decide)]
            congr 1
            rw [decide_eq_false (show ¬ ag c1 p1 r1 i1 > ag c2 p2 r2 i2 by omega)]
            decide
          · rw [if_neg hl, if_pos (show ag c1 p1 r1 i1 > ag c2 p2 r2 i2 by omega), if_neg (by decide)]
            congr 1
            rw [decide_eq_true (show ag c1 p1 r1 i1 > ag c2 p2 r2 i2 by omega)]
            decide
      · rw [if_neg ht, if_neg ht]
  · rw [if_neg hD]
    by_cases hl : r1 + dl c1 p1 i1 < r2 + dl c2 p2 i2
    · rw [if_pos hl, if_neg (by decide), decide_eq_true hl]
      rfl
    · rw [if_neg hl, if_pos (show r1 + dl c1 p1 i1 > r2 + dl c2 p2 i2 by omega), if_neg (by decide), decide_eq_false hl]
      rfl
/-- Of an invalid candidate Before answers no. -/
theorem before_bad {k : Nat} (hk : 3001 ≤ k) (b1 b2 : ByteArray) (n1 c1 p1 r1 i1 n2 c2 p2 r2 i2 : Int) (h : ¬ (val c1 p1 = true ∧ val c2 p2 = true ∧ 1 ≤ i1 ∧ i1 ≤ c1 ∧ 1 ≤ i2 ∧ i2 ≤ c2)) :
    pfair_Before.f k n1 b1 c1 p1 r1 i1 n2 b2 c2 p2 r2 i2 = some false := by
  obtain ⟨k, rfl⟩ : ∃ m, k = m + 1 := ⟨k - 1, by omega⟩
  have hno : ∀ c p i : Int, ¬ (val c p = true ∧ 1 ≤ i ∧ i ≤ c) → (win c p i).2.2.2 ≠ 0 := by
    intro c p i h0
    by_cases hv : val c p = true
    · rw [win_no hv (fun h => h0 ⟨hv, h.1, h.2⟩)]; decide
    · rw [win_bad (by simpa using hv)]; decide
  unfold pfair_Before.f
  rw [window_eq (by omega), window_eq (by omega)]
  simp only [Option.bind_some]
  by_cases h1 : (win c1 p1 i1).2.2.2 = 0
  · rw [if_pos h1]
    have h2 : (win c2 p2 i2).2.2.2 ≠ 0 := by
      apply hno
      intro h3
      apply h
      by_cases h4 : val c1 p1 = true ∧ 1 ≤ i1 ∧ i1 ≤ c1
      · exact ⟨h4.1, h3.1, h4.2.1, h4.2.2, h3.2.1, h3.2.2⟩
      · exact absurd h1 (hno _ _ _ h4)
    rw [bne_iff_ne.2 h2]
    simp only [pfair_Before.j0]
    rw [if_pos trivial]
  · rw [if_neg h1]
    simp only [pfair_Before.j0]
    rw [if_pos trivial]
end Go.Proofs.Ytpbogldeojnaeaa.Evs
