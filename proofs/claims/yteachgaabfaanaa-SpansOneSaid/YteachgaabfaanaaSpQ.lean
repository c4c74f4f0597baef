/- Lists of spans that are handed in, read. -/
import Derived.Test.YteachgaabfaanaaSpM
import Derived.Deep.Slices
import Derived.Deep.Fields
import Derived.ChangeSame
import Derived.ChangeSlices
import Derived.ProofKit
namespace Go.Proofs.Yteachgaabfaanaa
open Go.ChangeShapes Go.WideShapes Go.ChangeAt Go.RowKit Go.Deep Go.Proofs.YteachgaabfaanaaW.PrintWords Go.Proofs.YteachgaabfaanaaW.PrintLast Go.Proofs.YteachgaabfaanaaW.PrintMore Go.Proofs.Yteachgaabfaanaa.PRef
set_option linter.unusedVariables false
set_option linter.unusedSimpArgs false
section
variable {H : Type} {enc : TypeId × Value → H} {P : Program} {w : World} {base : Nat} {spare : Nat → Bool} {held : Bool}
theorem open_fields {t e : TypeId} {fs : Array Field} {fuel : Nat} {cs : List Value} {x : DataW H × List MemPlace} (ht : P.underlying t = some (.slice e)) (he : P.underlying e = some (.struct fs))
    (hone : oneCellFields P fs = true) (hC : P.cellsOf e = fs.size) (h : DataW.trod enc P w base spare held fuel t cs = some x) :
    cs = [.slice none 0 0] ∨
    ∃ (a : Addr) (len cap : Nat), cs = [.slice (some a) len cap] ∧ len ≤ cap ∧ cap ≤ maxLen ∧
      ∀ i, i < len → ∃ n, ∀ (j : Nat) (f : Field), fs[j]? = some f → ∃ (v : Value) (y : DataW H × List MemPlace), w.cell? (a.add (i * fs.size + j)) = some v ∧ DataW.trod enc P w base spare held n f.type [v] = some y := by
  rcases open_slice ht h with h0 | ⟨a, len, cap, m, n, D, Pl, hcs, hb, hl, hm, hmm, hx, hi⟩
  · exact .inl h0.1
  · refine .inr ⟨a, len, cap, hcs, hl, hm, fun i him => ?_⟩
    have him' : i < m := by
      rw [hmm]
      split <;> omega
    obtain ⟨cs', hc, ht'⟩ := hi i him'
    rw [hC] at hc
    obtain ⟨ys, n', hn', hy, hlen, hyl, hf⟩ := DataW.trod_struct he ht'
    obtain ⟨_, hcl, hat⟩ := World.cells?_some hc
    refine ⟨n', fun j f hj => ?_⟩
    obtain ⟨ho, hk⟩ := hone_of hone j f hj
    have hjl : j < fs.size := (Array.getElem?_eq_some_iff.1 hj).1
    have hcell := hat j hjl
    have hv : cs'[j]? = some (cs'[j]'(by omega)) := List.getElem?_eq_getElem (by omega)
    have h1 := hf j f hj
    rw [ho, hk] at h1
    have hone' : (cs'.drop j).take 1 = [cs'[j]'(by omega)] := by
      rw [List.drop_eq_getElem_cons (by omega)]
      rfl
    rw [hone'] at h1
    have hys : ys[j]? = some (ys[j]'(by omega)) := List.getElem?_eq_getElem (by omega)
    refine ⟨_, _, ?_, h1.trans hys⟩
    rw [← Go.Deep.add_add, hcell, hv]
end
theorem list_of {α : Type} {Q : Nat → α → Prop} : ∀ (n : Nat), (∀ i, i < n → ∃ x, Q i x) → ∃ l : List α, l.length = n ∧ ∀ i x, l[i]? = some x → Q i x := by
  intro n
  induction n with
  | zero => intro _; exact ⟨[], rfl, fun i x h => by simp at h⟩
  | succ n ih =>
    intro h
    obtain ⟨l, hl, hq⟩ := ih fun i hi => h i (by omega)
    obtain ⟨x, hx⟩ := h n (by omega)
    refine ⟨l ++ [x], by simp [hl], fun i y hy => ?_⟩
    rcases Nat.lt_or_ge i l.length with hi | hi
    · rw [List.getElem?_append_left hi] at hy
      exact hq i y hy
    · rw [List.getElem?_append_right hi] at hy
      have : i - l.length = 0 := by
        rcases Nat.eq_zero_or_pos (i - l.length) with h0 | h0
        · exact h0
        · rw [List.getElem?_eq_none (by simp; omega)] at hy; cases hy
      rw [this] at hy
      simp at hy
      subst hy
      rw [show i = n by omega]
      exact hx

theorem spans_read {H : Type} {enc : TypeId × Value → H} {W : World} {v : Value} {d : DataW H} {p : List MemPlace} (hv : Value.okWide Try.prog W .any 0 22 v) (h : DataW.Trod enc Try.prog W 0 (fun _ => true) true 22 v d p) :
    ∃ A c l, v = .slice A l.length c ∧ l.length ≤ c ∧ k40.C W A l.length l := by
  obtain ⟨a0, l0, c0, rfl⟩ := okWide_slice Try.underlying22 hv
  obtain ⟨fuel, hf⟩ := h
  rcases open_fields Try.underlying22 Try.underlying40 (by kernel_rfl) (by kernel_rfl) hf with hcs | ⟨a, len, cap, hcs, hlc, hmax, hi⟩
  · have e : Value.slice a0 l0 c0 = .slice none 0 0 := by simpa [Value.cells] using hcs
    exact ⟨none, 0, [], e, Nat.le_refl _, Kd.C_nil _ _⟩
  · have e : Value.slice a0 l0 c0 = .slice (some a) len cap := by simpa [Value.cells] using hcs
    obtain ⟨l, hl, hq⟩ := list_of (Q := fun i (x : S40) => ∃ c, c.length = 2 ∧ k40.K W x c ∧ ∀ j u, c[j]? = some u → W.cell? (a.add (i * 2 + j)) = some u) len fun i hilt => by
      obtain ⟨n, hn⟩ := hi i hilt
      obtain ⟨v0, y0, hc0, ht0⟩ := hn 0 _ rfl
      obtain ⟨v1, y1, hc1, ht1⟩ := hn 1 _ rfl
      obtain ⟨x0, hx0, _, _⟩ := DataW.trod_int Try.underlying3 ht0
      obtain ⟨x1, hx1, _, _⟩ := DataW.trod_int Try.underlying3 ht1
      injection hx0 with hx0 _
      injection hx1 with hx1 _
      subst hx0
      subst hx1
      refine ⟨⟨x0, x1⟩, _, rfl, k40_mk W ⟨x0, x1⟩, fun j u hu => ?_⟩
      rcases j with _ | _ | j
      · simp at hu; subst hu; exact hc0
      · simp at hu; subst hu; exact hc1
      · simp at hu
    subst hl
    exact ⟨some a, cap, l, e, hlc, rfl, by unfold maxLen at hmax; omega, fun _ => ⟨a, rfl, fun j x hj => hq j x hj⟩⟩
end Go.Proofs.Yteachgaabfaanaa
