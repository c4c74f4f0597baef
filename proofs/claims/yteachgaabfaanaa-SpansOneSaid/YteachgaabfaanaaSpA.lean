/- Spans: what the printed functions tell, in plain words. -/
import Derived.Test.YteachgaabfaanaaPRefx
import Derived.Test.YteachgaabfaanaaSpSort
import Derived.Lib.Hide
import Derived.WalkLawsBesides
import Derived.WalkSpells
namespace Go.Proofs.Yteachgaabfaanaa
open Go.RowKit Go.Proofs.YteachgaabfaanaaW.PrintWords Go.Proofs.YteachgaabfaanaaW.PrintLast Go.Proofs.YteachgaabfaanaaW.PrintMore Go.Proofs.Yteachgaabfaanaa.PRef
set_option linter.unusedVariables false
set_option linter.unusedSimpArgs false

def sp (s : S40) : SM.Sp := (s.f0, s.f1)
def sps (l : List S40) : List SM.Sp := l.map sp
theorem sps_length (l : List S40) : (sps l).length = l.length := List.length_map _
def unsp (s : SM.Sp) : S40 := ⟨s.1, s.2⟩
def unsps (l : List SM.Sp) : List S40 := l.map unsp
theorem sps_unsps (l : List SM.Sp) : sps (unsps l) = l := by
  unfold sps unsps
  rw [List.map_map]
  conv => rhs; rw [← List.map_id l]
  exact List.map_congr_left fun s _ => rfl
theorem unsps_sps (l : List S40) : unsps (sps l) = l := by
  unfold sps unsps
  rw [List.map_map]
  conv => rhs; rw [← List.map_id l]
  exact List.map_congr_left fun s _ => rfl
theorem sps_inj {a b : List S40} (h : sps a = sps b) : a = b := by rw [← unsps_sps a, h, unsps_sps]
theorem unsps_length (l : List SM.Sp) : (unsps l).length = l.length := List.length_map _
theorem w64 {i : Nat} (h : i < 9223372036854775807) : wrap64 ((i : Int) + 1) = ((i + 1 : Nat) : Int) := by
  unfold wrap64; omega
theorem rd_at (l : List S40) (i : Nat) (h : i < l.length) : rd_T40 l (i : Int) = l[i] := by
  unfold rd_T40
  simp [List.getD_eq_getElem?_getD, List.getElem?_eq_getElem h]
theorem sps_drop (l : List S40) (i : Nat) (h : i < l.length) : sps (l.drop i) = sp (rd_T40 l (i : Int)) :: sps (l.drop (i + 1)) := by
  rw [rd_at l i h, List.drop_eq_getElem_cons h]
  rfl

/-! ### Right -/
def chainB (lo : Int) : List SM.Sp → Bool
  | [] => true
  | s :: l => decide (lo < s.1) && decide (s.1 ≤ s.2) && decide (s.2 ≤ SM.M) && chainB (s.2 + 1) l
theorem chainB_sp (lo : Int) (s : S40) (l : List SM.Sp) : chainB lo (sp s :: l) = (decide (lo < s.f0) && decide (s.f0 ≤ s.f1) && decide (s.f1 ≤ SM.M) && chainB (s.f1 + 1) l) := rfl
theorem inB_sp (s : S40) (l : List SM.Sp) (v : Int) : SM.inB (sp s :: l) v = ((decide (s.f0 ≤ v) && decide (v ≤ s.f1)) || SM.inB l v) := SM.inB_cons _ _ _
theorem chainB_iff : ∀ (l : List SM.Sp) (lo : Int), chainB lo l = true ↔ SM.Chain lo l := by
  intro l
  induction l with
  | nil => intro lo; simp [chainB, SM.Chain]
  | cons s l ih => intro lo; simp [chainB, SM.Chain, ih, and_assoc]
def rightB (l : List S40) : Bool := chainB (-SM.M - 1) (sps l)
theorem rightB_iff (l : List S40) : rightB l = true ↔ SM.Right (sps l) := chainB_iff _ _
/-- What a span must begin behind. -/
def loAt (l : List S40) (i : Nat) : Int := if i = 0 then -SM.M - 1 else (rd_T40 l ((i - 1 : Nat) : Int)).f1 + 1
def PrevOk (l : List S40) (i : Nat) : Prop := i = 0 ∨ (-SM.M ≤ (rd_T40 l ((i - 1 : Nat) : Int)).f1 ∧ (rd_T40 l ((i - 1 : Nat) : Int)).f1 ≤ SM.M)
theorem right_l0 (l : List S40) (hl : l.length ≤ 1000000) : ∀ (d i : Nat), i + d = l.length → PrevOk l i → ∃ k, spans_Right.l0 k l l (l.length : Int) (i : Int) = some (chainB (loAt l i) (sps (l.drop i))) := by
  intro d
  induction d with
  | zero =>
    intro i hi _
    refine ⟨1, ?_⟩
    rw [spans_Right.l0, if_neg (by omega), List.drop_of_length_le (by omega)]
    rfl
  | succ d ih =>
    intro i hi hp
    have hil : i < l.length := by omega
    rw [sps_drop l i hil, chainB_sp]
    generalize hs : rd_T40 l (i : Int) = s
    by_cases c1 : s.f0 > s.f1
    · refine ⟨1, ?_⟩
      rw [spans_Right.l0, if_pos (by omega), if_pos (by omega), if_pos (by omega), hs, if_pos c1]
      have : decide (s.f0 ≤ s.f1) = false := decide_eq_false (by omega)
      simp [this]
    · by_cases c3 : s.f1 > 1048576
      · refine ⟨1, ?_⟩
        rw [spans_Right.l0, if_pos (by omega), if_pos (by omega), if_pos (by omega), hs, if_neg c1]
        have : decide (s.f1 ≤ SM.M) = false := decide_eq_false (by unfold SM.M; omega)
        rw [this]
        by_cases c2 : s.f0 < -1048576
        · rw [if_pos c2]; simp
        · rw [if_neg c2, if_pos c3]; simp
      · have e2 : decide (s.f0 ≤ s.f1) = true := decide_eq_true (by omega)
        have e3 : decide (s.f1 ≤ SM.M) = true := decide_eq_true (by unfold SM.M; omega)
        by_cases c2 : s.f0 < -1048576
        · refine ⟨1, ?_⟩
          rw [spans_Right.l0, if_pos (by omega), if_pos (by omega), if_pos (by omega), hs, if_neg c1, if_pos c2]
          have : decide (loAt l i < s.f0) = false := decide_eq_false (by
            unfold loAt
            unfold PrevOk SM.M at hp
            unfold SM.M
            split
            · omega
            · rcases hp with hp | hp <;> omega)
          rw [this]
          simp
        · by_cases hz : i = 0
          · subst hz
            obtain ⟨k, hk⟩ := ih 1 (by omega) (.inr ⟨by simp only [Nat.sub_self]; rw [hs]; unfold SM.M; omega, by simp only [Nat.sub_self]; rw [hs]; unfold SM.M; omega⟩)
            refine ⟨k + 1, ?_⟩
            rw [spans_Right.l0, if_pos (by omega), if_pos (by omega), if_pos (by omega), hs, if_neg c1, if_neg c2, if_neg c3, if_neg (by omega), w64 (by omega), hk]
            have : decide (loAt l 0 < s.f0) = true := decide_eq_true (by unfold loAt SM.M; simp; omega)
            rw [this, e2, e3]
            have : loAt l (0 + 1) = s.f1 + 1 := by
              unfold loAt
              rw [if_neg (by omega)]
              exact congrArg (fun x : S40 => x.f1 + 1) hs
            rw [this]
            rfl
          · have hw : wrap64 ((i : Int) - 1) = ((i - 1 : Nat) : Int) := by unfold wrap64; omega
            have hpr : loAt l i = (rd_T40 l ((i - 1 : Nat) : Int)).f1 + 1 := by unfold loAt; rw [if_neg hz]
            have hp2 : -SM.M ≤ (rd_T40 l ((i - 1 : Nat) : Int)).f1 ∧ (rd_T40 l ((i - 1 : Nat) : Int)).f1 ≤ SM.M := by
              rcases hp with hp | hp
              · exact absurd hp hz
              · exact hp
            generalize (rd_T40 l ((i - 1 : Nat) : Int)).f1 = pr at hpr hp2
            unfold SM.M at hp2
            by_cases c4 : s.f0 ≤ pr + 1
            · refine ⟨1, ?_⟩
              have hw2 : wrap64 (pr + 1) = pr + 1 := by unfold wrap64; omega
              rw [spans_Right.l0, if_pos (by omega), if_pos (by omega), if_pos (by omega), hs, if_neg c1, if_neg c2, if_neg c3, if_pos (by omega), hw, if_pos (by omega), if_pos (by omega)]
              have h5 : (rd_T40 l ((i - 1 : Nat) : Int)).f1 = pr := by
                have := hpr
                unfold loAt at this
                rw [if_neg hz] at this
                omega
              rw [h5, hw2, if_pos c4, hpr]
              have : decide (pr + 1 < s.f0) = false := decide_eq_false (by omega)
              rw [this]
              simp
            · obtain ⟨k, hk⟩ := ih (i + 1) (by omega) (.inr ⟨by rw [Nat.add_sub_cancel, hs]; unfold SM.M; omega, by rw [Nat.add_sub_cancel, hs]; unfold SM.M; omega⟩)
              refine ⟨k + 1, ?_⟩
              have hw2 : wrap64 (pr + 1) = pr + 1 := by unfold wrap64; omega
              have h5 : (rd_T40 l ((i - 1 : Nat) : Int)).f1 = pr := by
                have := hpr
                unfold loAt at this
                rw [if_neg hz] at this
                omega
              rw [spans_Right.l0, if_pos (by omega), if_pos (by omega), if_pos (by omega), hs, if_neg c1, if_neg c2, if_neg c3, if_pos (by omega), hw, if_pos (by omega), if_pos (by omega), h5, hw2, if_neg c4, w64 (by omega), hk, hpr]
              have : decide (pr + 1 < s.f0) = true := decide_eq_true (by omega)
              rw [this, e2, e3]
              have : loAt l (i + 1) = s.f1 + 1 := by unfold loAt; rw [if_neg (by omega), Nat.add_sub_cancel, hs]
              rw [this]
              rfl
theorem rightF (l : List S40) (hl : l.length ≤ 1000000) : ∃ k, spans_Right.f k l = some (rightB l) := by
  obtain ⟨k, hk⟩ := right_l0 l hl l.length 0 (by omega) (.inl rfl)
  exact ⟨k, hk⟩
/-- The document's. -/
theorem rright_l0 (l : List S40) (hl : l.length ≤ 1000000) : ∀ (d i : Nat), i + d = l.length → PrevOk l i → ∃ k, stratagemref03_Right.l0 k l (i : Int) = some (chainB (loAt l i) (sps (l.drop i))) := by
  intro d
  induction d with
  | zero =>
    intro i hi _
    refine ⟨1, ?_⟩
    rw [stratagemref03_Right.l0, if_neg (by omega), List.drop_of_length_le (by omega)]
    rfl
  | succ d ih =>
    intro i hi hp
    have hil : i < l.length := by omega
    rw [sps_drop l i hil, chainB_sp]
    generalize hs : rd_T40 l (i : Int) = s
    by_cases c0 : s.f0 < -1048576 ∨ s.f1 > 1048576 ∨ s.f0 > s.f1
    · refine ⟨2, ?_⟩
      have hj : stratagemref03_Right.j1 1 l (i : Int) true = some false := by rw [stratagemref03_Right.j1, if_pos rfl]
      have hv : (decide (loAt l i < s.f0) && decide (s.f0 ≤ s.f1) && decide (s.f1 ≤ SM.M)) = false := by
        rw [Bool.eq_false_iff]
        intro h
        simp only [Bool.and_eq_true, decide_eq_true_eq] at h
        unfold loAt at h
        unfold PrevOk SM.M at hp
        unfold SM.M at h
        split at h
        · omega
        · rcases hp with hp | hp <;> omega
      rw [hv, Bool.false_and]
      rw [stratagemref03_Right.l0, if_pos (by omega), if_pos (by omega), hs]
      by_cases c2 : s.f0 < -1048576
      · rw [if_pos c2, hj]
      · rw [if_neg c2]
        by_cases c3 : s.f1 > 1048576
        · rw [if_pos c3, hj]
        · rw [if_neg c3, decide_eq_true (by omega : s.f0 > s.f1), hj]
    · have e2 : decide (s.f0 ≤ s.f1) = true := decide_eq_true (by omega)
      have e3 : decide (s.f1 ≤ SM.M) = true := decide_eq_true (by unfold SM.M; omega)
      have hnext : PrevOk l (i + 1) := .inr ⟨by rw [Nat.add_sub_cancel, hs]; unfold SM.M; omega, by rw [Nat.add_sub_cancel, hs]; unfold SM.M; omega⟩
      have hlo : loAt l (i + 1) = s.f1 + 1 := by unfold loAt; rw [if_neg (by omega), Nat.add_sub_cancel, hs]
      obtain ⟨k, hk⟩ := ih (i + 1) (by omega) hnext
      rw [hlo] at hk
      have h0 : ∀ K, stratagemref03_Right.l0 (K + 1) l (i : Int) = stratagemref03_Right.j1 K l (i : Int) false := by
        intro K
        rw [stratagemref03_Right.l0, if_pos (by omega), if_pos (by omega), hs, if_neg (by omega), if_neg (by omega), decide_eq_false (by omega : ¬ s.f0 > s.f1)]
      by_cases hz : i = 0
      · subst hz
        refine ⟨k + 2, ?_⟩
        rw [h0, stratagemref03_Right.j1, if_neg (by simp), if_neg (by omega), w64 (by omega), hk]
        have : decide (loAt l 0 < s.f0) = true := decide_eq_true (by unfold loAt SM.M; simp; omega)
        rw [this, e2, e3]
        rfl
      · have hw : wrap64 ((i : Int) - 1) = ((i - 1 : Nat) : Int) := by unfold wrap64; omega
        have hpr : loAt l i = (rd_T40 l ((i - 1 : Nat) : Int)).f1 + 1 := by unfold loAt; rw [if_neg hz]
        have hp2 : -SM.M ≤ (rd_T40 l ((i - 1 : Nat) : Int)).f1 ∧ (rd_T40 l ((i - 1 : Nat) : Int)).f1 ≤ SM.M := by
          rcases hp with hp | hp
          · exact absurd hp hz
          · exact hp
        unfold SM.M at hp2
        have hj : ∀ K, stratagemref03_Right.j1 (K + 1) l (i : Int) false = if s.f0 - (rd_T40 l ((i - 1 : Nat) : Int)).f1 < 2 then some false else stratagemref03_Right.l0 K l (wrap64 ((i : Int) + 1)) := by
          intro K
          have hw2 : wrap64 (s.f0 - (rd_T40 l ((i - 1 : Nat) : Int)).f1) = s.f0 - (rd_T40 l ((i - 1 : Nat) : Int)).f1 := by unfold wrap64; omega
          rw [stratagemref03_Right.j1, if_neg (by simp), if_pos (by omega), if_pos (by omega), if_pos (by omega), hw, if_pos (by omega), if_pos (by omega), hs, hw2]
        by_cases c4 : s.f0 - (rd_T40 l ((i - 1 : Nat) : Int)).f1 < 2
        · refine ⟨2, ?_⟩
          rw [h0, hj, if_pos c4, hpr]
          have : decide ((rd_T40 l ((i - 1 : Nat) : Int)).f1 + 1 < s.f0) = false := decide_eq_false (by omega)
          rw [this]
          simp
        · refine ⟨k + 2, ?_⟩
          rw [h0, hj, if_neg c4, w64 (by omega), hk, hpr]
          have : decide ((rd_T40 l ((i - 1 : Nat) : Int)).f1 + 1 < s.f0) = true := decide_eq_true (by omega)
          rw [this, e2, e3]
          rfl
theorem rrightF (l : List S40) (hl : l.length ≤ 1000000) : ∃ k, stratagemref03_Right.f k l = some (rightB l) := by
  obtain ⟨k, hk⟩ := rright_l0 l hl l.length 0 (by omega) (.inl rfl)
  exact ⟨k, hk⟩

/-! ### Size -/
theorem chain_bd {l : List S40} (h : rightB l = true) (i : Nat) (hi : i < l.length) : -1048576 ≤ (rd_T40 l (i : Int)).f0 ∧ (rd_T40 l (i : Int)).f0 ≤ (rd_T40 l (i : Int)).f1 ∧ (rd_T40 l (i : Int)).f1 ≤ 1048576 := by
  have h1 := SM.chain_mem ((rightB_iff l).1 h) (sp (rd_T40 l (i : Int))) (by
    rw [rd_at l i hi]
    exact List.mem_map_of_mem (List.getElem_mem hi))
  unfold sp SM.M at h1
  simp only at h1
  omega
/-- How many numbers the first spans have. -/
def sizeTo (l : List S40) (i : Nat) : Int := SM.size (sps (l.take i))
theorem size_append (a b : List SM.Sp) : SM.size (a ++ b) = SM.size a + SM.size b := by simp [SM.size]
theorem sizeTo_succ (l : List S40) (i : Nat) (hi : i < l.length) : sizeTo l (i + 1) = sizeTo l i + ((rd_T40 l (i : Int)).f1 - (rd_T40 l (i : Int)).f0 + 1) := by
  unfold sizeTo
  rw [List.take_succ_eq_append_getElem hi, rd_at l i hi]
  unfold sps
  rw [List.map_append, size_append]
  simp [SM.size, sp]
theorem sizeTo_bd {l : List S40} (h : rightB l = true) : ∀ i, i ≤ l.length → 0 ≤ sizeTo l i ∧ sizeTo l i ≤ 2097153 * i := by
  intro i
  induction i with
  | zero => intro _; simp [sizeTo, SM.size, sps]
  | succ i ih =>
    intro hi
    have h1 := ih (by omega)
    have h2 := chain_bd h i (by omega)
    rw [sizeTo_succ l i (by omega)]
    omega
theorem size_l0 {l : List S40} (hl : l.length ≤ 1000000) (h : rightB l = true) : ∀ (d i : Nat), i + d = l.length → ∃ k, spans_Size.l0 k (sizeTo l i) l (l.length : Int) (i : Int) = some (SM.size (sps l)) := by
  intro d
  induction d with
  | zero =>
    intro i hi
    refine ⟨1, ?_⟩
    rw [spans_Size.l0, if_neg (by omega)]
    unfold sizeTo
    rw [List.take_of_length_le (by omega)]
  | succ d ih =>
    intro i hi
    have hil : i < l.length := by omega
    have h1 := sizeTo_bd h i (by omega)
    have h2 := chain_bd h i hil
    obtain ⟨k, hk⟩ := ih (i + 1) (by omega)
    rw [sizeTo_succ l i hil] at hk
    refine ⟨k + 1, ?_⟩
    generalize hs : rd_T40 l (i : Int) = s at h2 hk
    generalize sizeTo l i = z at h1 hk ⊢
    have e1 : wrap64 (s.f1 - s.f0) = s.f1 - s.f0 := by unfold wrap64; omega
    have e2 : wrap64 (s.f1 - s.f0 + 1) = s.f1 - s.f0 + 1 := by unfold wrap64; omega
    have e3 : wrap64 (z + (s.f1 - s.f0 + 1)) = z + (s.f1 - s.f0 + 1) := by unfold wrap64; omega
    rw [spans_Size.l0, if_pos (by omega), if_pos (by omega), if_pos (by omega), hs, e1, e2, e3, w64 (by omega)]
    exact hk
def sizeB (l : List S40) : Int := if rightB l then SM.size (sps l) else 0
theorem sizeF (l : List S40) (hl : l.length ≤ 1000000) : ∃ k, spans_Size.f k l = some (sizeB l) := by
  obtain ⟨k1, hk1⟩ := rightF l hl
  have M1 := fun k (h : k1 ≤ k) => at_rounds (spans_Right.mono l) h hk1
  cases h : rightB l with
  | false =>
    refine ⟨k1, ?_⟩
    unfold spans_Size.f sizeB
    rw [hk1, h]
    rfl
  | true =>
    obtain ⟨k2, hk2⟩ := size_l0 hl h l.length 0 (by omega)
    have M2 := fun k (h : k2 ≤ k) => at_rounds (fun k => (spans_Size.mono_l k) _ _ _ _) h hk2
    refine ⟨max k1 k2, ?_⟩
    unfold spans_Size.f sizeB
    rw [M1 _ (by omega), h]
    simp only [Option.bind_some, if_true]
    have := M2 (max k1 k2) (by omega)
    simpa [sizeTo, sps, SM.size] using this
/-- The document's. -/
theorem rsize_l0 {l : List S40} (hl : l.length ≤ 1000000) (h : rightB l = true) {kr : Nat} (hkr : ∀ k, kr ≤ k → stratagemref03_Right.f k l = some true) : ∀ (d i : Nat), i + d = l.length → ∃ K, ∀ k, K ≤ k → stratagemref03_Size.l0 k l (sizeTo l i) (i : Int) = some (SM.size (sps l)) := by
  intro d
  induction d with
  | zero =>
    intro i hi
    refine ⟨1, fun k hk => ?_⟩
    obtain ⟨k, rfl⟩ : ∃ m, k = m + 1 := ⟨k - 1, by omega⟩
    rw [stratagemref03_Size.l0, if_neg (by omega)]
    unfold sizeTo
    rw [List.take_of_length_le (by omega)]
  | succ d ih =>
    intro i hi
    have hil : i < l.length := by omega
    have h1 := sizeTo_bd h i (by omega)
    have h2 := chain_bd h i hil
    obtain ⟨K, hK⟩ := ih (i + 1) (by omega)
    rw [sizeTo_succ l i hil] at hK
    refine ⟨max K kr + 1, fun k hk => ?_⟩
    obtain ⟨k, rfl⟩ : ∃ m, k = m + 1 := ⟨k - 1, by omega⟩
    have hk' := hK k (by omega)
    generalize hs : rd_T40 l (i : Int) = s at h2 hk'
    generalize sizeTo l i = z at h1 hk' ⊢
    have e1 : wrap64 (z + s.f1) = z + s.f1 := by unfold wrap64; omega
    have e2 : wrap64 (z + s.f1 + 1) = z + s.f1 + 1 := by unfold wrap64; omega
    have e3 : wrap64 (z + s.f1 + 1 - s.f0) = z + (s.f1 - s.f0 + 1) := by unfold wrap64; omega
    rw [stratagemref03_Size.l0, if_pos (by omega), hkr k (by omega)]
    simp only [Option.bind_some, if_true]
    rw [if_pos (by omega), hs, e1, e2, e3, w64 (by omega)]
    exact hk'
theorem rsizeF (l : List S40) (hl : l.length ≤ 1000000) : ∃ k, stratagemref03_Size.f k l = some (sizeB l) := by
  obtain ⟨k1, hk1⟩ := rrightF l hl
  have M1 := fun k (h : k1 ≤ k) => at_rounds (stratagemref03_Right.mono l) h hk1
  cases h : rightB l with
  | false =>
    rw [h] at M1
    refine ⟨k1 + 1, ?_⟩
    unfold stratagemref03_Size.f sizeB
    rw [stratagemref03_Size.l0, h]
    by_cases h0 : (0 : Int) < (l.length : Int)
    · rw [if_pos h0, M1 _ (Nat.le_refl _)]
      rfl
    · rw [if_neg h0]
      rfl
  | true =>
    rw [h] at M1
    obtain ⟨K, hK⟩ := rsize_l0 hl h M1 l.length 0 (by omega)
    refine ⟨K, ?_⟩
    unfold stratagemref03_Size.f sizeB
    have := hK K (Nat.le_refl _)
    rw [h]
    simpa [sizeTo, sps, SM.size] using this
def fewB (l : List S40) : Bool := rightB l && decide (SM.size (sps l) ≤ 400)
theorem fewF (l : List S40) (hl : l.length ≤ 1000000) : ∃ k, stratagemlaw03_few.f k l = some (fewB l) := by
  obtain ⟨k1, hk1⟩ := rrightF l hl
  obtain ⟨k2, hk2⟩ := rsizeF l hl
  have M1 := at_rounds (stratagemref03_Right.mono l) (Nat.le_max_left k1 k2) hk1
  have M2 := at_rounds (stratagemref03_Size.mono l) (Nat.le_max_right k1 k2) hk2
  refine ⟨max k1 k2, ?_⟩
  unfold stratagemlaw03_few.f fewB
  rw [M1]
  unfold sizeB at M2
  cases h : rightB l with
  | false => rfl
  | true =>
    rw [h] at M2
    simp only [Option.bind_some, if_true]
    rw [M2]
    rfl

/-! ### In, Same -/
theorem in_l0 (l : List S40) (v : Int) (hl : l.length ≤ 1000000) : ∀ (d i : Nat), i + d = l.length → ∃ k, stratagemref03_In.l0 k l v (i : Int) = some (SM.inB (sps (l.drop i)) v) := by
  intro d
  induction d with
  | zero =>
    intro i hi
    refine ⟨1, ?_⟩
    rw [stratagemref03_In.l0, if_neg (by omega), List.drop_of_length_le (by omega)]
    rfl
  | succ d ih =>
    intro i hi
    have hil : i < l.length := by omega
    obtain ⟨k, hk⟩ := ih (i + 1) (by omega)
    refine ⟨k + 1, ?_⟩
    rw [sps_drop l i hil, inB_sp]
    rw [stratagemref03_In.l0, if_pos (by omega), if_pos (by omega), w64 (by omega), hk]
    generalize rd_T40 l (i : Int) = s
    by_cases c1 : v ≥ s.f0
    · rw [if_pos c1, decide_eq_true c1]
      by_cases c2 : v ≤ s.f1
      · rw [if_pos c2, decide_eq_true c2]; rfl
      · rw [if_neg c2, decide_eq_false c2]; rfl
    · rw [if_neg c1, decide_eq_false c1]; rfl
theorem inF (l : List S40) (v : Int) (hl : l.length ≤ 1000000) : ∃ k, stratagemref03_In.f k l v = some (SM.inB (sps l) v) := by
  obtain ⟨k, hk⟩ := in_l0 l v hl l.length 0 (by omega)
  exact ⟨k, hk⟩
theorem same_l0 (a b : List S40) (hab : a.length = b.length) (hl : a.length ≤ 1000000) : ∀ (d i : Nat), i + d = a.length → ∃ k q, stratagemref03_Same.l0 k a b (i : Int) = some q ∧ (q = true ↔ a.drop i = b.drop i) := by
  intro d
  induction d with
  | zero =>
    intro i hi
    refine ⟨1, true, ?_, ?_⟩
    · rw [stratagemref03_Same.l0, if_neg (by omega)]
    · rw [List.drop_of_length_le (by omega), List.drop_of_length_le (by omega)]; simp
  | succ d ih =>
    intro i hi
    have h1 : i < a.length := by omega
    have h2 : i < b.length := by omega
    obtain ⟨k, q, hk, hq⟩ := ih (i + 1) (by omega)
    rw [List.drop_eq_getElem_cons h1, List.drop_eq_getElem_cons h2, List.cons.injEq]
    have ea := rd_at a i h1
    have eb := rd_at b i h2
    have key : ∀ K, stratagemref03_Same.l0 (K + 1) a b (i : Int) = if (!(a[i].f0 == b[i].f0) || !(a[i].f1 == b[i].f1)) = true then some false else stratagemref03_Same.l0 K a b (wrap64 ((i : Int) + 1)) := by
      intro K
      rw [stratagemref03_Same.l0, if_pos (by omega), if_pos (by omega), if_pos (by omega), ea, eb]
    by_cases he : a[i] = b[i]
    · refine ⟨k + 1, q, ?_, ?_⟩
      · rw [key, if_neg (by simp [he]), w64 (by omega)]
        exact hk
      · simp [he, hq]
    · refine ⟨1, false, ?_, by simp [he]⟩
      rw [key, if_pos]
      rw [Bool.or_eq_true]
      by_cases e0 : a[i].f0 = b[i].f0
      · refine .inr ?_
        have : a[i].f1 ≠ b[i].f1 := fun e1 => he (by
          cases h : a[i]; cases h' : b[i]
          rw [h, h'] at e0 e1
          simp_all)
        simp [this]
      · exact .inl (by simp [e0])
theorem sameF (a b : List S40) (hl : a.length ≤ 1000000) : ∃ k q, stratagemref03_Same.f k a b = some q ∧ (q = true ↔ a = b) := by
  by_cases h : a.length = b.length
  · obtain ⟨k, q, hk, hq⟩ := same_l0 a b h hl a.length 0 (by omega)
    refine ⟨k, q, ?_, by simpa using hq⟩
    unfold stratagemref03_Same.f
    rw [if_pos (by omega)]
    exact hk
  · refine ⟨0, false, ?_, ?_⟩
    · unfold stratagemref03_Same.f
      rw [if_neg (by omega)]
    · have : a ≠ b := fun e => h (by rw [e])
      simp [this]
end Go.Proofs.Yteachgaabfaanaa
