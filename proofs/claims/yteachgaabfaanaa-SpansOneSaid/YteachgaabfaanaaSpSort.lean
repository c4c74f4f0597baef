/- Spans: what sorting and compacting leave, and the list of any numbers. -/
import Derived.Test.YteachgaabfaanaaSpMath
import Derived.Lib.SlicesCompact
namespace Go.Proofs.Yteachgaabfaanaa.SM
open Go.Lib
/-- Of a list that does not fall the neighbours that are equal are put together. -/
theorem compact_upto (d : Array Int) (hs : ∀ i j, i < j → j < d.size → d[i]! ≤ d[j]!) : ∀ m, m ≤ d.size → (compactUpTo d m).Pairwise (· < ·) ∧ (∀ e, e ∈ compactUpTo d m ↔ ∃ i, i < m ∧ d[i]! = e) := by
  intro m
  induction m with
  | zero => intro _; exact ⟨by simp [compactUpTo], fun e => by simp [compactUpTo]⟩
  | succ m ih =>
    intro hm
    obtain ⟨h1, h2⟩ := ih (by omega)
    rw [compactUpTo_succ]
    cases hk : keeps d m with
    | false =>
      simp only [Bool.false_eq_true, if_false, List.append_nil]
      refine ⟨h1, fun e => ?_⟩
      rw [h2]
      unfold keeps at hk
      simp only [decide_eq_false_iff_not, not_or, ne_eq, Decidable.not_not] at hk
      obtain ⟨hk0, hk1⟩ := hk
      constructor
      · rintro ⟨i, hi, he⟩; exact ⟨i, by omega, he⟩
      · rintro ⟨i, hi, he⟩
        by_cases e1 : i = m
        · subst e1; exact ⟨i - 1, by omega, by rw [← he, hk1]⟩
        · exact ⟨i, by omega, he⟩
    | true =>
      simp only [if_true]
      unfold keeps at hk
      simp only [decide_eq_true_eq] at hk
      refine ⟨?_, fun e => ?_⟩
      · rw [List.pairwise_append]
        refine ⟨h1, by simp, fun a ha b hb => ?_⟩
        simp only [List.mem_singleton] at hb
        subst hb
        obtain ⟨i, hi, rfl⟩ := (h2 a).1 ha
        rcases hk with hk | hk
        · omega
        · have h3 := hs (m - 1) m (by omega) (by omega)
          by_cases e1 : i = m - 1
          · subst e1; omega
          · have := hs i (m - 1) (by omega) (by omega); omega
      · rw [List.mem_append, h2]
        simp only [List.mem_singleton]
        constructor
        · rintro (⟨i, hi, he⟩ | rfl)
          · exact ⟨i, by omega, he⟩
          · exact ⟨m, by omega, rfl⟩
        · rintro ⟨i, hi, he⟩
          by_cases e1 : i = m
          · subst e1; exact .inr he.symm
          · exact .inl ⟨i, by omega, he⟩
theorem compact_sorted {zs : List Int} (hs : zs.Pairwise (· ≤ ·)) : (compact zs).Pairwise (· < ·) ∧ ∀ e, e ∈ compact zs ↔ e ∈ zs := by
  have hg : ∀ i, i < zs.length → zs.toArray[i]! = zs[i]! := fun i hi => by simp
  have h := compact_upto zs.toArray (fun i j hij hj => by
    have hj' : j < zs.length := by simpa using hj
    rw [hg i (by omega), hg j hj', getElem!_pos zs i (by omega), getElem!_pos zs j hj']
    exact List.pairwise_iff_getElem.1 hs i j (by omega) hj' hij) zs.length (by simp)
  refine ⟨h.1, fun e => ?_⟩
  unfold compact
  rw [h.2]
  constructor
  · rintro ⟨i, hi, rfl⟩
    rw [hg i hi, getElem!_pos zs i hi]
    exact List.getElem_mem hi
  · intro he
    obtain ⟨i, hi, rfl⟩ := List.mem_iff_getElem.1 he
    exact ⟨i, hi, by rw [hg i hi, getElem!_pos zs i hi]⟩
theorem sorted_merge (zs : List Int) : (zs.mergeSort fun x y => decide (x ≤ y)).Pairwise (· ≤ ·) ∧ ∀ e, e ∈ (zs.mergeSort fun x y => decide (x ≤ y)) ↔ e ∈ zs := by
  refine ⟨?_, fun e => List.mem_mergeSort⟩
  have := List.pairwise_mergeSort (le := fun x y : Int => decide (x ≤ y)) (fun a b c h1 h2 => by simp at *; omega) (fun a b => by simp; omega) zs
  exact this.imp fun h => by simpa using h
def sortM (zs : List Int) : List Int := zs.mergeSort fun x y => decide (x ≤ y)
/-- The list of any numbers: none, if one is out of bounds. -/
def ofOk (zs : List Int) : Bool := zs.all fun v => decide (-M ≤ v) && decide (v ≤ M)
theorem of_spec {zs : List Int} (h : ofOk zs = true) : Right (ofM (sortM zs)) ∧ ∀ v, inB (ofM (sortM zs)) v = decide (v ∈ zs) := by
  obtain ⟨h1, h2⟩ := sorted_merge zs
  unfold ofOk at h
  rw [List.all_eq_true] at h
  have h3 := ofM_spec (sortM zs) (fun v hv => by have := h v ((h2 v).1 hv); simpa using this) h1
  refine ⟨h3.1, fun v => ?_⟩
  rw [h3.2]
  exact decide_eq_decide.2 (h2 v)
/-- The ends of two lists, sorted and put together. -/
def endsM (a b : List Sp) : List Int := compact (sortM (endsOf (a ++ b)))
theorem endsM_spec (a b : List Sp) : (endsM a b).Pairwise (· < ·) ∧ ∀ e, e ∈ endsM a b ↔ e ∈ endsOf a ∨ e ∈ endsOf b := by
  obtain ⟨h1, h2⟩ := sorted_merge (endsOf (a ++ b))
  obtain ⟨h3, h4⟩ := compact_sorted h1
  refine ⟨h3, fun e => ?_⟩
  unfold endsM sortM
  rw [h4, h2]
  simp [endsOf, List.flatMap_append]
def partsM (keep : Bool → Bool → Bool) (a b : List Sp) : List Sp := buildM (fun v => keep (inB a v) (inB b v)) (endsM a b) []
theorem partsM_spec {a b : List Sp} (ha : Right a) (hb : Right b) (keep : Bool → Bool → Bool) (h0 : keep false false = false) : Right (partsM keep a b) ∧ ∀ v, inB (partsM keep a b) v = keep (inB a v) (inB b v) :=
  parts_spec ha hb keep h0 (endsM a b) (endsM_spec a b).1 (endsM_spec a b).2
end Go.Proofs.Yteachgaabfaanaa.SM
