/- How a law's arguments are opened: the cells of a type that can be read as data are those of a value of the print's kind. No program in sight. -/
import Derived.ChangeArms
import Derived.ChangeSame
import Derived.Deep.Slices
import Derived.WideLaws
import Derived.SizedLaws
import Derived.ChangeSlices
import Derived.Test.YtcmifojplgmgkaaWWords
namespace Go.Proofs.YtcmifojplgmgkaaW.Opening
open Go.ChangeShapes Go.WideShapes Go.Deep Go.RowKit Go.Proofs.YtcmifojplgmgkaaW.PrintWords

def Opens {α : Type} (P : Program) (d : Kd α) (ok : α → Prop) (t : TypeId) : Prop :=
  ∀ {H : Type} (enc : TypeId × Value → H) (w : World) (base : Nat) (spare : Nat → Bool) (held : Bool) (fuel : Nat) (cs : List Value) (x : DataW H × List MemPlace),
    DataW.trod enc P w base spare held fuel t cs = some x → ∃ a, d.K w a cs ∧ ok a

section
variable {P : Program} {t e : TypeId}
theorem opens_int {k : IntKind} (h : P.underlying t = some (.int k)) : Opens P (Kd.int k) (fun n => (Lit.int k n).wf = true) t := by
  intro H enc w base spare held fuel cs x hx
  obtain ⟨n, rfl, _, hw⟩ := DataW.trod_int h hx
  exact ⟨n, rfl, hw⟩
theorem opens_string (h : P.underlying t = some .string) : Opens P Kd.string (fun s => s.size ≤ maxLen) t := by
  intro H enc w base spare held fuel cs x hx
  obtain ⟨s, rfl, _, hs⟩ := DataW.trod_string h hx
  exact ⟨s, rfl, hs⟩
theorem opens_iso {α β : Type} {d : Kd α} {ok : α → Prop} (f : β → α) (g : α → β) (hfg : ∀ x, f (g x) = x) (h : Opens P d ok t) : Opens P (Kd.iso d f) (fun y => ok (f y)) t := by
  intro H enc w base spare held fuel cs x hx
  obtain ⟨a, h1, h2⟩ := h enc w base spare held fuel cs x hx
  exact ⟨g a, by show d.K w (f (g a)) cs; rw [hfg]; exact h1, by show ok (f (g a)); rw [hfg]; exact h2⟩
theorem opens_mono {α : Type} {d : Kd α} {ok ok' : α → Prop} (h : Opens P d ok t) (hk : ∀ a, ok a → ok' a) : Opens P d ok' t := by
  intro H enc w base spare held fuel cs x hx
  obtain ⟨a, h1, h2⟩ := h enc w base spare held fuel cs x hx
  exact ⟨a, h1, hk a h2⟩
theorem opens_st2 {α β : Type} {a : Kd α} {b : Kd β} {oa : α → Prop} {ob : β → Prop} {f0 f1 : Field} (h : P.underlying t = some (.struct #[f0, f1])) (hC : P.cellsOf t = a.sz + b.sz)
    (ho0 : f0.offset = 0) (hc0 : P.cellsOf f0.type = a.sz) (ho1 : f1.offset = a.sz) (hc1 : P.cellsOf f1.type = b.sz) (ha : Opens P a oa f0.type) (hb : Opens P b ob f1.type) :
    Opens P (Kd.pair a b) (fun x => oa x.1 ∧ ob x.2) t := by
  intro H enc w base spare held fuel cs x hx
  obtain ⟨xs, n, _, _, hl, hlen, hf⟩ := DataW.trod_struct h hx
  have h0 := hf 0 f0 rfl
  have h1 := hf 1 f1 rfl
  have e0 : xs[0]? = some (xs[0]'(by simp at hlen; omega)) := List.getElem?_eq_getElem _
  have e1 : xs[1]? = some (xs[1]'(by simp at hlen; omega)) := List.getElem?_eq_getElem _
  rw [e0, ho0, hc0] at h0
  rw [e1, ho1, hc1] at h1
  obtain ⟨x0, k0, p0⟩ := ha enc w base spare held n _ _ h0
  obtain ⟨x1, k1, p1⟩ := hb enc w base spare held n _ _ h1
  refine ⟨(x0, x1), ⟨_, _, ?_, k0, k1⟩, p0, p1⟩
  rw [List.drop_zero, List.take_of_length_le (l := cs.drop a.sz) (by rw [List.length_drop]; omega), List.take_append_drop]
theorem opens_st3 {α β γ : Type} {a : Kd α} {b : Kd β} {c : Kd γ} {oa : α → Prop} {ob : β → Prop} {oc : γ → Prop} {f0 f1 f2 : Field} (h : P.underlying t = some (.struct #[f0, f1, f2])) (hC : P.cellsOf t = a.sz + (b.sz + c.sz))
    (ho0 : f0.offset = 0) (hc0 : P.cellsOf f0.type = a.sz) (ho1 : f1.offset = a.sz) (hc1 : P.cellsOf f1.type = b.sz) (ho2 : f2.offset = a.sz + b.sz) (hc2 : P.cellsOf f2.type = c.sz)
    (ha : Opens P a oa f0.type) (hb : Opens P b ob f1.type) (hc : Opens P c oc f2.type) :
    Opens P (Kd.pair a (Kd.pair b c)) (fun x => oa x.1 ∧ ob x.2.1 ∧ oc x.2.2) t := by
  intro H enc w base spare held fuel cs x hx
  obtain ⟨xs, n, _, _, hl, hlen, hf⟩ := DataW.trod_struct h hx
  have h0 := hf 0 f0 rfl
  have h1 := hf 1 f1 rfl
  have h2 := hf 2 f2 rfl
  have e0 : xs[0]? = some (xs[0]'(by simp at hlen; omega)) := List.getElem?_eq_getElem _
  have e1 : xs[1]? = some (xs[1]'(by simp at hlen; omega)) := List.getElem?_eq_getElem _
  have e2 : xs[2]? = some (xs[2]'(by simp at hlen; omega)) := List.getElem?_eq_getElem _
  rw [e0, ho0, hc0] at h0
  rw [e1, ho1, hc1] at h1
  rw [e2, ho2, hc2] at h2
  obtain ⟨x0, k0, p0⟩ := ha enc w base spare held n _ _ h0
  obtain ⟨x1, k1, p1⟩ := hb enc w base spare held n _ _ h1
  obtain ⟨x2, k2, p2⟩ := hc enc w base spare held n _ _ h2
  refine ⟨(x0, x1, x2), ⟨_, _, ?_, k0, ⟨_, _, rfl, k1, k2⟩⟩, p0, p1, p2⟩
  rw [List.drop_zero, List.take_of_length_le (l := cs.drop (a.sz + b.sz)) (by rw [List.length_drop]; omega), ← List.drop_drop, List.take_append_drop, List.take_append_drop]
theorem opens_st4 {α β γ δ : Type} {a : Kd α} {b : Kd β} {c : Kd γ} {d : Kd δ} {oa : α → Prop} {ob : β → Prop} {oc : γ → Prop} {od : δ → Prop} {f0 f1 f2 f3 : Field} (h : P.underlying t = some (.struct #[f0, f1, f2, f3])) (hC : P.cellsOf t = a.sz + (b.sz + (c.sz + d.sz)))
    (ho0 : f0.offset = 0) (hc0 : P.cellsOf f0.type = a.sz) (ho1 : f1.offset = a.sz) (hc1 : P.cellsOf f1.type = b.sz) (ho2 : f2.offset = a.sz + b.sz) (hc2 : P.cellsOf f2.type = c.sz) (ho3 : f3.offset = a.sz + b.sz + c.sz) (hc3 : P.cellsOf f3.type = d.sz)
    (ha : Opens P a oa f0.type) (hb : Opens P b ob f1.type) (hc : Opens P c oc f2.type) (hd : Opens P d od f3.type) :
    Opens P (Kd.pair a (Kd.pair b (Kd.pair c d))) (fun x => oa x.1 ∧ ob x.2.1 ∧ oc x.2.2.1 ∧ od x.2.2.2) t := by
  intro H enc w base spare held fuel cs x hx
  obtain ⟨xs, n, _, _, hl, hlen, hf⟩ := DataW.trod_struct h hx
  have h0 := hf 0 f0 rfl
  have h1 := hf 1 f1 rfl
  have h2 := hf 2 f2 rfl
  have h3 := hf 3 f3 rfl
  have e0 : xs[0]? = some (xs[0]'(by simp at hlen; omega)) := List.getElem?_eq_getElem _
  have e1 : xs[1]? = some (xs[1]'(by simp at hlen; omega)) := List.getElem?_eq_getElem _
  have e2 : xs[2]? = some (xs[2]'(by simp at hlen; omega)) := List.getElem?_eq_getElem _
  have e3 : xs[3]? = some (xs[3]'(by simp at hlen; omega)) := List.getElem?_eq_getElem _
  rw [e0, ho0, hc0] at h0
  rw [e1, ho1, hc1] at h1
  rw [e2, ho2, hc2] at h2
  rw [e3, ho3, hc3] at h3
  obtain ⟨x0, k0, p0⟩ := ha enc w base spare held n _ _ h0
  obtain ⟨x1, k1, p1⟩ := hb enc w base spare held n _ _ h1
  obtain ⟨x2, k2, p2⟩ := hc enc w base spare held n _ _ h2
  obtain ⟨x3, k3, p3⟩ := hd enc w base spare held n _ _ h3
  refine ⟨(x0, x1, x2, x3), ⟨_, _, ?_, k0, ⟨_, _, rfl, k1, ⟨_, _, rfl, k2, k3⟩⟩⟩, p0, p1, p2, p3⟩
  rw [List.drop_zero, List.take_of_length_le (l := cs.drop (a.sz + b.sz + c.sz)) (by rw [List.length_drop]; omega), show cs.drop (a.sz + b.sz + c.sz) = ((cs.drop a.sz).drop b.sz).drop c.sz from by rw [List.drop_drop, List.drop_drop, Nat.add_assoc], show cs.drop (a.sz + b.sz) = (cs.drop a.sz).drop b.sz from by rw [List.drop_drop], List.take_append_drop, List.take_append_drop, List.take_append_drop]

/-- The elements behind the length are not asked. -/
theorem opens_slice {α : Type} {d : Kd α} {ok : α → Prop} (h : P.underlying t = some (.slice e)) (hC : P.cellsOf e = d.sz) (he : Opens P d ok e) : Opens P (Kd.slice e d) (fun xs => xs.length ≤ maxLen ∧ ∀ x ∈ xs, ok x) t := by
  intro H enc w base spare held fuel cs x hx
  rcases open_slice h hx with ⟨rfl, _⟩ | ⟨a, len, cap, m, n, D, Pl, rfl, hb, hl, hm, hmm, _, hi⟩
  · refine ⟨[], ⟨none, 0, rfl, Nat.le_refl _, ?_⟩, by simp, by simp⟩
    exact ⟨rfl, by simp, fun h => absurd h (by simp)⟩
  · have hle : len ≤ m := by rw [hmm]; split <;> omega
    have key : ∀ i, i < len → ∃ y c, d.K w y c ∧ ok y ∧ c.length = d.sz ∧ ∀ j u, c[j]? = some u → w.cell? (a.add (i * d.sz + j)) = some u := by
      intro i hil
      obtain ⟨c, h1, h2⟩ := hi i (by omega)
      obtain ⟨y, hk, ho⟩ := he enc w base spare held n _ _ h2
      rw [hC] at h1
      obtain ⟨_, hcl, hat⟩ := World.cells?_some h1
      refine ⟨y, c, hk, ho, hcl, fun j u hu => ?_⟩
      have hj : j < d.sz := by
        rcases Nat.lt_or_ge j d.sz with h | h
        · exact h
        · rw [List.getElem?_eq_none (by omega)] at hu; cases hu
      have := hat j hj
      rw [hu, Go.Deep.add_add] at this
      exact this
    have all : ∀ q, q ≤ len → ∃ xs : List α, xs.length = q ∧ (∀ x ∈ xs, ok x) ∧ ∀ i y, xs[i]? = some y → ∃ c, d.K w y c ∧ c.length = d.sz ∧ ∀ j u, c[j]? = some u → w.cell? (a.add (i * d.sz + j)) = some u := by
      intro q
      induction q with
      | zero => exact fun _ => ⟨[], rfl, by simp, by simp⟩
      | succ q ih =>
        intro hq
        obtain ⟨xs, h1, h2, h3⟩ := ih (by omega)
        obtain ⟨y, c, hk, ho, hcl, hc⟩ := key q (by omega)
        refine ⟨xs ++ [y], by simp [h1], ?_, ?_⟩
        · intro x hx
          rcases List.mem_append.1 hx with hx | hx
          · exact h2 x hx
          · rw [List.mem_singleton.1 hx]; exact ho
        · intro i z hz
          rcases Nat.lt_or_ge i xs.length with hil | hil
          · rw [List.getElem?_append_left hil] at hz
            exact h3 i z hz
          · rw [List.getElem?_append_right hil] at hz
            have hi0 : i = q := by
              have : i - xs.length < 1 := by
                have := (List.getElem?_eq_some_iff.1 hz).1
                simpa using this
              omega
            subst hi0
            rw [h1, Nat.sub_self] at hz
            have : z = y := by simpa using hz.symm
            subst this
            exact ⟨c, hk, hcl, hc⟩
    obtain ⟨xs, h1, h2, h3⟩ := all len (Nat.le_refl _)
    subst h1
    have hmx : xs.length ≤ maxLen := by omega
    refine ⟨xs, ⟨some a, cap, rfl, hl, rfl, by simpa [maxLen] using hmx, fun _ => ⟨a, rfl, fun j p hj => ?_⟩⟩, hmx, h2⟩
    obtain ⟨c, k1, k2, k3⟩ := h3 j p hj
    exact ⟨c, k2, k1, k3⟩

/-! ### A parameter -/
theorem open_st {α : Type} {d : Kd α} {ok : α → Prop} {fs : Array Field} (ho : Opens P d ok t) (hs : P.underlying t = some (.struct fs)) {H : Type} {enc : TypeId × Value → H} {w : World} {r : Reach} {b0 base : Nat} {spare : Nat → Bool} {held : Bool} {v : Value} {x : DataW H} {p : List MemPlace}
    (hv : Value.okWide P w r b0 t v) (h : DataW.Trod enc P w base spare held t v x p) : ∃ (a : α) (cs : List Value), v = .agg cs.toArray ∧ d.K w a cs ∧ ok a := by
  obtain ⟨cs, rfl, _⟩ := okWide_struct hs hv
  obtain ⟨fuel, hf⟩ := h
  obtain ⟨a, hk, hok⟩ := ho enc w base spare held fuel _ _ hf
  exact ⟨a, cs.toList, by simp, by simpa [Value.cells] using hk, hok⟩
theorem open_sl {α : Type} {d : Kd α} {ok : List α → Prop} {e : TypeId} (ho : Opens P (Kd.slice e d) ok t) (hs : P.underlying t = some (.slice e)) {H : Type} {enc : TypeId × Value → H} {w : World} {r : Reach} {b0 base : Nat} {spare : Nat → Bool} {held : Bool} {v : Value} {x : DataW H} {p : List MemPlace}
    (hv : Value.okWide P w r b0 t v) (h : DataW.Trod enc P w base spare held t v x p) : ∃ (xs : List α) (A : Option Addr) (c : Nat), v = .slice A xs.length c ∧ xs.length ≤ c ∧ d.C w A xs.length xs ∧ ok xs ∧
      ∀ (ts : List TypeId) (ds : List (DataW H)) (j : Nat), (DataW.weightsEach P ts ds).all (· ≤ reachBytes) = true → ts[j]? = some t → ds[j]? = some x → xs.length * P.bytesOf e ≤ 140737488351232 := by
  obtain ⟨a, len, cap, rfl⟩ := okWide_slice hs hv
  obtain ⟨fuel, hf⟩ := h
  obtain ⟨xs, ⟨A, c, he, hl, hc⟩, hok⟩ := ho enc w base spare held fuel _ _ hf
  have he2 : Value.slice a len cap = .slice A xs.length c := by simpa [Value.cells] using he
  refine ⟨xs, A, c, he2, hl, hc, hok, fun ts ds j hsz ht hd => ?_⟩
  rcases open_slice hs hf with ⟨hcs, _⟩ | ⟨a', len', cap', m, n, D, Pl, hcs, hb, hl', hm, hmm, hx, _⟩
  · have : Value.slice a len cap = .slice none 0 0 := by simpa [Value.cells] using hcs
    rw [he2] at this
    injection this with _ h2 _
    rw [h2]; simp
  · have e3 : Value.slice a len cap = .slice (some a') len' cap' := by simpa [Value.cells] using hcs
    rw [he2] at e3
    injection e3 with _ h2 _
    obtain ⟨hx1, _⟩ := Prod.mk.inj hx
    subst hx1
    have z := sized_slice hsz ht hd hs
    rw [h2]
    exact Nat.le_trans (Nat.mul_le_mul_right _ (by simp)) z
end
end Go.Proofs.YtcmifojplgmgkaaW.Opening
