/- Spans: At and Place at a number of the list; the list of its own numbers. -/
import Derived.Test.YteachgaabfaanaaSpK
import Derived.Test.YteachgaabfaanaaSpL
namespace Go.Proofs.Yteachgaabfaanaa
open Go.RowKit Go.Proofs.YteachgaabfaanaaW.PrintWords Go.Proofs.YteachgaabfaanaaW.PrintLast Go.Proofs.YteachgaabfaanaaW.PrintMore Go.Proofs.Yteachgaabfaanaa.PRef
set_option linter.unusedVariables false
set_option linter.unusedSimpArgs false

theorem rd_left (xs ys : List Int) (j : Nat) (h : j < xs.length) : rd (xs ++ ys) (j : Int) = rd xs (j : Int) := by
  unfold rd
  simp only [Int.toNat_natCast, List.getD_eq_getElem?_getD]
  rw [List.getElem?_append_left h]
theorem rd_right (xs ys : List Int) (j : Nat) (h : xs.length ≤ j) : rd (xs ++ ys) (j : Int) = rd ys ((j - xs.length : Nat) : Int) := by
  unfold rd
  simp only [Int.toNat_natCast, List.getD_eq_getElem?_getD]
  rw [List.getElem?_append_right h]
theorem rd_from : ∀ (n : Nat) (x : Int) (j : Nat), j < n → rd (fromN x n) (j : Int) = x + j := by
  intro n
  induction n with
  | zero => intro x j h; omega
  | succ n ih =>
    intro x j h
    cases j with
    | zero => simp [fromN, rd]
    | succ j =>
      have := ih (x + 1) j (by omega)
      have e : rd (fromN x (n + 1)) ((j + 1 : Nat) : Int) = rd (fromN (x + 1) n) (j : Int) := by
        unfold rd
        simp only [Int.toNat_natCast]
        rfl
      rw [e, this]
      omega
theorem vals_len (s : S40) : (valsOf s).length = (s.f1 + 1 - s.f0).toNat := fromN_length _ _

theorem at_l0 {l : List S40} (hl : l.length ≤ 1000000) (h : rightB l = true) : ∀ (d i x : Nat), i + d = l.length → x < (valsB (l.drop i)).length → x ≤ 1000000 → ∃ k, spans_At.l0 k (x : Int) l (l.length : Int) (i : Int) = some (rd (valsB (l.drop i)) (x : Int), true) := by
  intro d
  induction d with
  | zero =>
    intro i x hi hx _
    rw [List.drop_eq_nil_of_le (by omega)] at hx
    simp [valsB] at hx
  | succ d ih =>
    intro i x hi hx hx2
    have hil : i < l.length := by omega
    have hb := chain_bd h i hil
    have ih' := ih (i + 1)
    rw [valsB_drop l i hil] at hx ⊢
    have hn := vals_len (rd_T40 l (i : Int))
    generalize hs : rd_T40 l (i : Int) = s at hb hx hn ⊢
    have e1 : wrap64 (s.f1 - s.f0) = s.f1 - s.f0 := by unfold wrap64; omega
    have e2 : wrap64 (s.f1 - s.f0 + 1) = s.f1 - s.f0 + 1 := by unfold wrap64; omega
    by_cases hlt : x < (valsOf s).length
    · refine ⟨1, ?_⟩
      have e3 : wrap64 (s.f0 + x) = s.f0 + x := by unfold wrap64; omega
      rw [spans_At.l0, if_pos (by omega), if_pos (by omega), if_pos (by omega), hs, e1, e2, if_pos (by omega), e3, rd_left _ _ _ hlt]
      have : rd (valsOf s) (x : Int) = s.f0 + x := rd_from _ _ _ (by omega)
      rw [this]
    · obtain ⟨k, hk⟩ := ih' (x - (valsOf s).length) (by omega) (by rw [List.length_append] at hx; omega) (by omega)
      refine ⟨k + 1, ?_⟩
      have e3 : wrap64 ((x : Int) - (s.f1 - s.f0 + 1)) = ((x - (valsOf s).length : Nat) : Int) := by unfold wrap64; omega
      rw [spans_At.l0, if_pos (by omega), if_pos (by omega), if_pos (by omega), hs, e1, e2, if_neg (by omega), e3, w64 (by omega), rd_right _ _ _ (by omega)]
      exact hk
theorem at_j0 {l : List S40} (hl : l.length ≤ 1000000) (h : rightB l = true) (x : Nat) (hx : x < (valsB l).length) (hx2 : x ≤ 1000000) : ∃ k, spans_At.f k l (x : Int) = some (rd (valsB l) (x : Int), true) := by
  obtain ⟨k1, hk1⟩ := at_l0 hl h l.length 0 x (by omega) (by rw [List.drop_zero]; exact hx) hx2
  rw [List.drop_zero] at hk1
  obtain ⟨k2, hk2⟩ := sizeF l hl
  have hsz : sizeB l = ((valsB l).length : Int) := by
    unfold sizeB
    rw [if_pos h]
    exact (vals_size h).symm
  rw [hsz] at hk2
  have M1 := at_rounds (fun k => (spans_At.mono_l k).2 (x : Int) l (l.length : Int) 0) (Nat.le_max_left k1 k2) hk1
  have M2 := at_rounds (spans_Size.mono l) (Nat.le_trans (Nat.le_max_right k1 k2) (Nat.le_succ _)) hk2
  refine ⟨max k1 k2 + 1, ?_⟩
  unfold spans_At.f
  rw [if_neg (by omega), M2]
  simp only [Option.bind_some]
  have hd : decide ((x : Int) ≥ ((valsB l).length : Int)) = false := decide_eq_false (by omega)
  rw [hd, spans_At.j0, if_neg (by decide)]
  exact M1
theorem place_go : ∀ (l : List S40) (lo n : Int) (j : Nat), chainB lo (sps l) = true → j < (valsB l).length → placeGo l (rd (valsB l) (j : Int)) n = n + j := by
  intro l
  induction l with
  | nil => intro lo n j _ h; simp [valsB] at h
  | cons s l ih =>
    intro lo n j hc hj
    have hc' : chainB lo (sp s :: sps l) = true := hc
    rw [chainB_sp] at hc'
    simp only [Bool.and_eq_true, decide_eq_true_eq] at hc'
    obtain ⟨⟨⟨h1, h2⟩, h3⟩, h4⟩ := hc'
    have e : valsB (s :: l) = valsOf s ++ valsB l := rfl
    have hn := vals_len s
    rw [e] at hj ⊢
    unfold placeGo
    by_cases hlt : j < (valsOf s).length
    · have hv : rd (valsOf s ++ valsB l) (j : Int) = s.f0 + j := by
        rw [rd_left _ _ _ hlt]
        exact rd_from _ _ _ (by omega)
      rw [hv, if_neg (by omega), if_pos (by omega)]
      omega
    · have hj2 : j - (valsOf s).length < (valsB l).length := by rw [List.length_append] at hj; omega
      rw [rd_right _ _ _ (by omega)]
      have hin : rd (valsB l) ((j - (valsOf s).length : Nat) : Int) ∈ valsB l := by
        unfold rd
        rw [List.getD_eq_getElem?_getD]
        simp only [Int.toNat_natCast]
        rw [List.getElem?_eq_getElem hj2]
        exact List.getElem_mem hj2
      have hgt := SM.chain_gt ((chainB_iff _ _).1 h4) ((mem_vals _).1 hin)
      rw [if_neg (by omega), if_neg (by omega), ih (s.f1 + 1) _ _ h4 hj2]
      omega
theorem place_vals {l : List S40} (h : rightB l = true) (j : Nat) (hj : j < (valsB l).length) : placeB l (rd (valsB l) (j : Int)) = (j : Int) := by
  unfold placeB
  rw [if_pos h, place_go l _ 0 j h hj]
  omega
theorem vals_bd {l : List S40} (h : rightB l = true) : ∀ v ∈ valsB l, -1048576 ≤ v ∧ v ≤ 1048576 := by
  intro v hv
  have := SM.chain_gt ((rightB_iff l).1 h) ((mem_vals v).1 hv)
  unfold SM.M at this
  omega
/-- Of all numbers of a right list, and some of them twice, comes that list. -/
theorem of_turned {l : List S40} (h : rightB l = true) (zs : List Int) (hm : ∀ v, v ∈ zs ↔ v ∈ valsB l) : SM.ofOk zs = true ∧ unsps (SM.ofM (SM.sortM zs)) = l := by
  have hok : SM.ofOk zs = true := by
    unfold SM.ofOk
    rw [List.all_eq_true]
    intro v hv
    have := vals_bd h v ((hm v).1 hv)
    unfold SM.M
    rw [Bool.and_eq_true, decide_eq_true_eq, decide_eq_true_eq]
    omega
  refine ⟨hok, eq_of _ _ (SM.of_spec hok).1 h fun v => ?_⟩
  rw [(SM.of_spec hok).2 v]
  rw [Bool.eq_iff_iff, decide_eq_true_eq, hm v, mem_vals]
end Go.Proofs.Yteachgaabfaanaa
