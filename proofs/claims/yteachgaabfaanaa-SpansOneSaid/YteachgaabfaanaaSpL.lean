/- Spans: R.Values, At. -/
import Derived.Test.YteachgaabfaanaaSpC
namespace Go.Proofs.Yteachgaabfaanaa
open Go.RowKit Go.Proofs.YteachgaabfaanaaW.PrintWords Go.Proofs.YteachgaabfaanaaW.PrintLast Go.Proofs.YteachgaabfaanaaW.PrintMore Go.Proofs.Yteachgaabfaanaa.PRef
set_option linter.unusedVariables false
set_option linter.unusedSimpArgs false

def fromN (x : Int) : Nat → List Int
  | 0 => []
  | n + 1 => x :: fromN (x + 1) n
theorem fromN_length : ∀ (n : Nat) (x : Int), (fromN x n).length = n := by
  intro n
  induction n with
  | zero => intro x; rfl
  | succ n ih => intro x; simp [fromN, ih]
theorem mem_fromN : ∀ (n : Nat) (x v : Int), v ∈ fromN x n ↔ x ≤ v ∧ v < x + n := by
  intro n
  induction n with
  | zero =>
    intro x v
    constructor
    · intro h; cases h
    · intro h; omega
  | succ n ih =>
    intro x v
    simp only [fromN, List.mem_cons, ih]
    omega
def valsOf (s : S40) : List Int := fromN s.f0 (s.f1 + 1 - s.f0).toNat
def valsB (l : List S40) : List Int := l.flatMap valsOf
theorem valsB_drop (l : List S40) (i : Nat) (h : i < l.length) : valsB (l.drop i) = valsOf (rd_T40 l (i : Int)) ++ valsB (l.drop (i + 1)) := by
  rw [rd_at l i h, List.drop_eq_getElem_cons h]
  rfl
theorem val_l1 (l : List S40) (i : Nat) (hi : i < l.length) (hl : l.length ≤ 1000000) (hb : -1048576 ≤ (rd_T40 l (i : Int)).f0 ∧ (rd_T40 l (i : Int)).f1 ≤ 1048576) (r : List Int) : ∀ (n : Nat) (x : Int) (out : List Int), (rd_T40 l (i : Int)).f0 ≤ x → n = ((rd_T40 l (i : Int)).f1 + 1 - x).toNat → (out ++ fromN x n).length ≤ 1000000 → (∃ k, stratagemref03_Values.l0 k l (out ++ fromN x n) ((i + 1 : Nat) : Int) = some r) → ∃ k, stratagemref03_Values.l1 k l out (i : Int) x = some r := by
  intro n
  induction n with
  | zero =>
    intro x out hx hn ho hk
    obtain ⟨k, hk⟩ := hk
    refine ⟨k + 1, ?_⟩
    rw [stratagemref03_Values.l1, if_pos (by omega), if_pos (by omega), if_neg (by omega), w64 (by omega)]
    simpa [fromN] using hk
  | succ n ih =>
    intro x out hx hn ho hk
    have hw : wrap64 (x + 1) = x + 1 := by unfold wrap64; omega
    have e : out ++ fromN x (n + 1) = (out ++ [x]) ++ fromN (x + 1) n := by simp [fromN]
    rw [e] at ho hk
    obtain ⟨k, hk⟩ := ih (x + 1) (out ++ [x]) (by omega) (by omega) ho hk
    refine ⟨k + 1, ?_⟩
    have hol : out.length < 17592186044416 := by
      rw [List.length_append, List.length_append] at ho
      omega
    rw [stratagemref03_Values.l1, if_pos (by omega), if_pos (by omega), if_pos (by omega), if_pos hol, hw]
    exact hk
theorem val_l0 {l : List S40} (hl : l.length ≤ 1000000) (h : rightB l = true) : ∀ (d i : Nat) (out : List Int), i + d = l.length → (out ++ valsB (l.drop i)).length ≤ 1000000 → ∃ k, stratagemref03_Values.l0 k l out (i : Int) = some (out ++ valsB (l.drop i)) := by
  intro d
  induction d with
  | zero =>
    intro i out hi _
    refine ⟨1, ?_⟩
    rw [stratagemref03_Values.l0, if_neg (by omega), List.drop_eq_nil_of_le (by omega)]
    simp [valsB]
  | succ d ih =>
    intro i out hi ho
    have hil : i < l.length := by omega
    have hb := chain_bd h i hil
    have e := valsB_drop l i hil
    rw [e, ← List.append_assoc] at ho ⊢
    have h2 := ih (i + 1) (out ++ valsOf (rd_T40 l (i : Int))) (by omega) ho
    obtain ⟨k, hk⟩ := val_l1 l i hil hl ⟨hb.1, hb.2.2⟩ _ _ (rd_T40 l (i : Int)).f0 out (Int.le_refl _) rfl (by
      rw [List.length_append] at ho
      have : (out ++ fromN (rd_T40 l (i : Int)).f0 ((rd_T40 l (i : Int)).f1 + 1 - (rd_T40 l (i : Int)).f0).toNat).length = (out ++ valsOf (rd_T40 l (i : Int))).length := rfl
      omega) h2
    refine ⟨k + 1, ?_⟩
    rw [stratagemref03_Values.l0, if_pos (by omega), if_pos (by omega)]
    exact hk
theorem vals_size : ∀ {l : List S40} {lo : Int}, chainB lo (sps l) = true → ((valsB l).length : Int) = SM.size (sps l) := by
  intro l
  induction l with
  | nil => intro lo _; rfl
  | cons s l ih =>
    intro lo h
    have h' : chainB lo (sp s :: sps l) = true := h
    rw [chainB_sp] at h'
    simp only [Bool.and_eq_true, decide_eq_true_eq] at h'
    obtain ⟨⟨⟨h1, h2⟩, h3⟩, h4⟩ := h'
    have e : valsB (s :: l) = valsOf s ++ valsB l := rfl
    have e2 : SM.size (sps (s :: l)) = (s.f1 - s.f0 + 1) + SM.size (sps l) := rfl
    have e3 : (valsOf s).length = (s.f1 + 1 - s.f0).toNat := fromN_length _ _
    rw [e, e2, List.length_append, e3, ← ih h4]
    omega
theorem valsF {l : List S40} (hl : l.length ≤ 1000000) (h : rightB l = true) (hs : SM.size (sps l) ≤ 400) : (valsB l).length ≤ 400 ∧ ∃ k, stratagemref03_Values.f k l = some (valsB l) := by
  have h1 := vals_size h
  have hlen : (valsB l).length ≤ 400 := by omega
  refine ⟨hlen, ?_⟩
  obtain ⟨k, hk⟩ := val_l0 hl h l.length 0 [] (by omega) (by rw [List.drop_zero, List.nil_append]; omega)
  refine ⟨k, ?_⟩
  rw [List.drop_zero, List.nil_append] at hk
  exact hk
theorem mem_vals {l : List S40} (v : Int) : v ∈ valsB l ↔ SM.inB (sps l) v = true := by
  unfold valsB SM.inB sps
  rw [List.mem_flatMap, List.any_map, List.any_eq_true]
  constructor
  · rintro ⟨s, hs, hv⟩
    have h2 : s.f0 ≤ v ∧ v < s.f0 + ((s.f1 + 1 - s.f0).toNat : Nat) := (mem_fromN _ _ _).1 hv
    refine ⟨s, hs, ?_⟩
    show (decide (s.f0 ≤ v) && decide (v ≤ s.f1)) = true
    rw [Bool.and_eq_true, decide_eq_true_eq, decide_eq_true_eq]
    omega
  · rintro ⟨s, hs, hv⟩
    have hv' : (decide (s.f0 ≤ v) && decide (v ≤ s.f1)) = true := hv
    rw [Bool.and_eq_true, decide_eq_true_eq, decide_eq_true_eq] at hv'
    refine ⟨s, hs, (mem_fromN _ _ _).2 ?_⟩
    omega
end Go.Proofs.Yteachgaabfaanaa
