/- What the document's May, Sizes and Large tell, in plain words; how long a text is. -/
import Derived.Test.YtlgnogpjmdhflaaDoorTreeS
namespace Go.Proofs.YtlgnogpjmdhflaaDoor
open Go.RowKit Go.Proofs.YtlgnogpjmdhflaaDoorW.PrintWords Go.Proofs.YtlgnogpjmdhflaaDoorW.PrintLast Go.Proofs.YtlgnogpjmdhflaaDoorW.PrintMore Go.Proofs.YtlgnogpjmdhflaaDoor.PRef Go.Maps
set_option linter.unusedVariables false
set_option linter.unusedSimpArgs false

namespace TM
theorem dg_len (n : Int) : (dg n).length ≤ 2 := by
  unfold dg
  split <;> simp
theorem flat_len {α : Type} (f : α → Txt) (g : α → Int) : ∀ ks : List α, (∀ k ∈ ks, ((f k).length : Int) ≤ 7 * g k) → (((ks.map f).flatten).length : Int) ≤ 7 * (ks.map g).sum := by
  intro ks
  induction ks with
  | nil => intro _; simp
  | cons k ks ih =>
    intro h
    have h1 := h k (by simp)
    have h2 := ih fun x hx => h x (List.mem_cons_of_mem _ hx)
    simp only [List.map_cons, List.flatten_cons, List.length_append, List.sum_cons]
    omega
theorem mem_le_sum : ∀ (l : List Int) (x : Int), x ∈ l → (∀ y ∈ l, 1 ≤ y) → x ≤ l.sum := by
  intro l
  induction l with
  | nil => intro x h; simp at h
  | cons a l ih =>
    intro x h h1
    have h0 := h1 a (by simp)
    have hs := Go.Proofs.YtlgnogpjmdhflaaDoor.sum_nonneg l fun y hy => h1 y (List.mem_cons_of_mem _ hy)
    simp only [List.sum_cons]
    rcases List.mem_cons.1 h with rfl | h
    · omega
    · have := ih x h fun y hy => h1 y (List.mem_cons_of_mem _ hy)
      omega
/-- A text is of few letters. -/
theorem T_len {t : List Nd} (hm : Mays t) : ∀ i, i < t.length → up sizeF 0 t i < top → ((T t i).length : Int) ≤ 7 * up sizeF 0 t i := by
  intro i
  induction i using Nat.strongRecOn with
  | ind i ih =>
    intro hi hlt
    have hk := (hm i hi).2
    rw [T_eq hm hi]
    rw [up_eq i hk] at hlt ⊢
    generalize hks : (nd t i).2.2 = ks at hk hlt ⊢
    have hpos : ∀ y ∈ ks.map (fun k => up sizeF 0 t k.toNat), 1 ≤ y := by
      intro y hy
      obtain ⟨k, hk', rfl⟩ := List.mem_map.1 hy
      have := hk k hk'
      exact (size_pos hm k.toNat (by omega)).1
    have hs := Go.Proofs.YtlgnogpjmdhflaaDoor.sum_nonneg _ hpos
    unfold sizeF at hlt ⊢
    have hf := flat_len (fun k => T t k.toNat) (fun k => up sizeF 0 t k.toNat) ks fun k hk' => by
      have h1 := hk k hk'
      have h2 := mem_le_sum _ _ (List.mem_map.2 ⟨k, hk', rfl⟩) hpos
      exact ih k.toNat (by omega) (by omega) (by change TM.up (fun _ _ ks => min top (1 + ks.sum)) 0 t k.toNat < top; unfold sizeF at h2; omega)
    have d1 := dg_len (nd t i).1
    have d2 := dg_len (nd t i).2.1
    unfold form
    simp only [List.length_cons, List.length_append, List.length_nil]
    unfold sizeF at hf hs
    omega
end TM

theorem fits7 (k p : Int) (n : Nat) : stratagemref19_Fits.f k p (n : Int) = some (TM.fitsB k p n) := by
  unfold stratagemref19_Fits.f TM.fitsB
  by_cases a0 : k = 0
  · subst a0
    by_cases a1 : p = 0
    · subst a1
      by_cases a2 : (n : Int) = 0
      · rw [if_pos rfl, if_pos rfl, if_pos a2]
        have : n = 0 := by omega
        subst this
        rfl
      · rw [if_pos rfl, if_pos rfl, if_neg a2, if_neg (by omega), if_neg (by omega)]
        have : n ≠ 0 := by omega
        simp [this]
    · rw [if_pos rfl, if_neg a1, if_neg (by omega), if_neg (by omega)]
      simp [a1]
  · rw [if_neg a0]
    by_cases b0 : k = 1
    · subst b0
      rw [if_pos rfl]
      by_cases b1 : p ≥ 0
      · rw [if_pos b1]
        by_cases b2 : p < 64
        · rw [if_pos b2]
          by_cases b3 : (n : Int) = 1
          · rw [if_pos b3]
            have : n = 1 := by omega
            subst this
            simp
            omega
          · rw [if_neg b3, if_neg (by omega)]
            have : n ≠ 1 := by omega
            simp [this]
        · rw [if_neg b2, if_neg (by omega)]
          have : ¬ p ≤ 63 := by omega
          simp [this]
      · rw [if_neg b1, if_neg (by omega)]
        have : ¬ 0 ≤ p := by omega
        simp [this]
    · rw [if_neg b0]
      by_cases c0 : k = 2
      · subst c0
        rw [if_pos rfl]
        by_cases c1 : p = 0
        · subst c1
          rw [if_pos rfl]
          by_cases c2 : (n : Int) > 0
          · rw [if_pos c2]
            have h1 : 1 ≤ n := by omega
            simp [h1]
            omega
          · rw [if_neg c2]
            have h1 : ¬ 1 ≤ n := by omega
            simp [h1]
        · rw [if_neg c1]
          simp [c1]
      · rw [if_neg c0]
        simp [a0, b0, c0]

theorem rd7 (l : List S46) (i : Nat) (h : i < l.length) : rd_T47 (l.map conv) (i : Int) = conv (rd_T46 l i) := by
  unfold rd_T47 rd_T46
  simp [List.getD_eq_getElem?_getD, List.getElem?_eq_getElem h]

/-! ### May -/
theorem may_l1 (l : List S46) (i : Nat) (hi : i < l.length) (hl : l.length < 9223372036854775807) (hm : (rd_T46 l i).f2.length < 9223372036854775807) {r : Bool} (h : ∃ k, stratagemref19_May.l0 k (l.map conv) ((i + 1 : Nat) : Int) = some r) :
    ∀ (d j : Nat), j + d = (rd_T46 l i).f2.length → ∃ k, stratagemref19_May.l1 k (l.map conv) (i : Int) (j : Int) = some (!((rd_T46 l i).f2.drop j).any (badK i) && r) := by
  intro d
  have hlen : (l.map conv).length = l.length := List.length_map _
  have hr := rd7 l i hi
  have hf2 : (rd_T47 (l.map conv) (i : Int)).f2 = (rd_T46 l i).f2 := by rw [hr]; rfl
  induction d with
  | zero =>
    intro j hj
    obtain ⟨k, hk⟩ := h
    refine ⟨k + 1, ?_⟩
    rw [stratagemref19_May.l1, hlen, hf2, if_pos (by omega), if_pos (by omega), if_neg (by omega), w64 (by omega), hk, List.drop_of_length_le (by omega)]
    simp
  | succ d ih =>
    intro j hj
    have hjl : j < (rd_T46 l i).f2.length := by omega
    rw [List.drop_eq_getElem_cons hjl, List.any_cons]
    have hrd : rd (rd_T46 l i).f2 (j : Int) = (rd_T46 l i).f2[j] := by simp [rd, List.getD_eq_getElem?_getD, List.getElem?_eq_getElem hjl]
    obtain ⟨k, hk⟩ := ih (j + 1) (by omega)
    refine ⟨k + 1, ?_⟩
    rw [stratagemref19_May.l1, hlen, hf2, if_pos (by omega), if_pos (by omega), if_pos (by omega), if_pos (by omega), hrd]
    unfold badK
    by_cases h0 : (rd_T46 l i).f2[j] < 0
    · rw [if_pos h0]
      simp [h0]
    · rw [if_neg h0]
      by_cases h1 : (rd_T46 l i).f2[j] ≥ (i : Int)
      · rw [if_pos h1]
        simp [h1]
      · rw [if_neg h1, w64 (by omega), hk]
        have e1 : decide ((rd_T46 l i).f2[j] < 0) = false := decide_eq_false h0
        have e2 : decide ((i : Int) ≤ (rd_T46 l i).f2[j]) = false := decide_eq_false (by omega)
        rw [e1, e2]
        rfl
theorem may_l0 (l : List S46) (hl : l.length < 9223372036854775807) (hm : ∀ n ∈ l, n.f2.length < 9223372036854775807) : ∀ (d i : Nat), i + d = l.length →
    ∃ k, stratagemref19_May.l0 k (l.map conv) (i : Int) = some (((List.range' i d).all (okN l)) && (!decide (l.length = 0) && !decide (100000 < l.length))) := by
  intro d
  have hlen : (l.map conv).length = l.length := List.length_map _
  induction d with
  | zero =>
    intro i hi
    refine ⟨1, ?_⟩
    rw [stratagemref19_May.l0, hlen, if_neg (by omega)]
    by_cases h : (l.length : Int) ≥ 1
    · rw [if_pos h]
      have h1 : ¬ l.length = 0 := by omega
      simp only [List.range'_zero, List.all_nil, Bool.true_and, Option.some.injEq]
      rw [Bool.eq_iff_iff]
      simp [h1]
      omega
    · rw [if_neg h]
      have h1 : l.length = 0 := by omega
      simp [h1]
  | succ d ih =>
    intro i hi
    have hil : i < l.length := by omega
    have hr := rd7 l i hil
    obtain ⟨k2, hk2⟩ := may_l1 l i hil hl (hm _ (rd_T46_mem hil)) (ih (i + 1) (by omega)) (rd_T46 l i).f2.length 0 (by omega)
    by_cases hfit : TM.fitsB (rd_T46 l i).f0 (rd_T46 l i).f1 (rd_T46 l i).f2.length = true
    · refine ⟨k2 + 1, ?_⟩
      rw [stratagemref19_May.l0, hlen, if_pos (by omega), if_pos (by omega), hr]
      simp only [conv]
      rw [fits7, hfit]
      simp only [Option.bind_some, if_true]
      rw [show ((0 : Int)) = ((0 : Nat) : Int) from rfl, hk2]
      simp only [List.range'_succ, List.all_cons, List.drop_zero]
      have : okN l i = !(rd_T46 l i).f2.any (badK i) := by unfold okN okB; rw [hfit]; rfl
      rw [this, Bool.and_assoc]
    · refine ⟨1, ?_⟩
      rw [stratagemref19_May.l0, hlen, if_pos (by omega), if_pos (by omega), hr]
      simp only [conv]
      have hff : TM.fitsB (rd_T46 l i).f0 (rd_T46 l i).f1 (rd_T46 l i).f2.length = false := by simpa using hfit
      rw [fits7, hff]
      simp only [Option.bind_some]
      have : okN l i = false := by unfold okN okB; rw [hff]; rfl
      simp [List.range'_succ, this]
theorem mayRef (l : List S46) (hl : l.length < 9223372036854775807) (hm : ∀ n ∈ l, n.f2.length < 9223372036854775807) : ∃ k, stratagemref19_May.f k (l.map conv) = some (mayB l) := by
  obtain ⟨k, hk⟩ := may_l0 l hl hm l.length 0 (by omega)
  refine ⟨k, ?_⟩
  unfold stratagemref19_May.f mayB
  rw [show ((0 : Int)) = ((0 : Nat) : Int) from rfl, hk, List.range_eq_range', Bool.and_comm]

/-! ### Sizes -/
theorem sizes_l1 (l : List S46) (hM : TM.Mays (nds l)) (i : Nat) (hi : i < l.length) (hl : l.length < 1000000) {r : List Int × List Int}
    (h : ∃ k, stratagemref19_Sizes.l0 k (l.map conv) (TM.upN TM.sizeF 0 (nds l) (i + 1)) (TM.upN TM.depthF 0 (nds l) (i + 1)) ((i + 1 : Nat) : Int) = some r) :
    ∀ (d j : Nat), j + d = (rd_T46 l i).f2.length →
    ∃ k, stratagemref19_Sizes.l1 k (l.map conv) (TM.upN TM.sizeF 0 (nds l) i) (TM.upN TM.depthF 0 (nds l) i) (i : Int) (min TM.top (1 + (kidsN TM.sizeF (nds l) (rd_T46 l i).f2 j).sum)) (1 + TM.maxL (kidsN TM.depthF (nds l) (rd_T46 l i).f2 j)) (j : Int) = some r := by
  intro d
  have hlen : (l.map conv).length = l.length := List.length_map _
  have hf2 : (rd_T47 (l.map conv) (i : Int)).f2 = (rd_T46 l i).f2 := by rw [rd7 l i hi]; rfl
  have hks := kids_of l hM i hi
  have hnd := nd_nds l i hi
  induction d with
  | zero =>
    intro j hj
    obtain ⟨k, hk⟩ := h
    refine ⟨k + 1, ?_⟩
    have hL4 : (TM.upN TM.sizeF 0 (nds l) i).length = i := TM.upN_length i
    have hL5 : (TM.upN TM.depthF 0 (nds l) i).length = i := TM.upN_length i
    rw [stratagemref19_Sizes.l1, hlen, hf2, if_pos (by omega), if_pos (by omega), if_neg (by omega), if_pos (by omega), if_pos (by omega), w64 (by omega), ← hk]
    have hj' : j = (rd_T46 l i).f2.length := by omega
    have e : ∀ (f : Int → Int → List Int → Int), TM.upN f 0 (nds l) (i + 1) = TM.upN f 0 (nds l) i ++ [f (rd_T46 l i).f0 (rd_T46 l i).f1 (kidsN f (nds l) (rd_T46 l i).f2 j)] := by
      intro f
      rw [TM.upN, hnd]
      simp only [ndOf]
      congr 2
      unfold kidsN
      rw [hj', List.take_length]
      congr 1
      refine List.map_congr_left fun x hx => ?_
      obtain ⟨q, hq, rfl⟩ := List.mem_iff_getElem.1 hx
      have h1 := hks.2 q hq
      have h2 : rd (rd_T46 l i).f2 (q : Int) = (rd_T46 l i).f2[q] := by simp [rd, List.getD_eq_getElem?_getD, List.getElem?_eq_getElem hq]
      rw [h2] at h1
      exact TM.up_of i _ (by omega)
    rw [e, e]
    rfl
  | succ d ih =>
    intro j hj
    have hjl : j < (rd_T46 l i).f2.length := by omega
    obtain ⟨q0, q1⟩ := hks.2 j hjl
    obtain ⟨k, hk⟩ := ih (j + 1) (by omega)
    rw [kidsN_succ _ _ _ _ hjl, kidsN_succ _ _ _ _ hjl] at hk
    generalize hx : rd (rd_T46 l i).f2 (j : Int) = x at q0 q1 hk
    have hL4 : (TM.upN TM.sizeF 0 (nds l) i).length = i := TM.upN_length i
    have hL5 : (TM.upN TM.depthF 0 (nds l) i).length = i := TM.upN_length i
    have s1 := rd_upN TM.sizeF (nds l) i x q0 q1
    have s2 := rd_upN TM.depthF (nds l) i x q0 q1
    have b1 := TM.size_pos hM x.toNat (by rw [nds_length]; omega)
    have b2 := TM.depth_bd hM x.toNat (by rw [nds_length]; omega)
    have hp1 : ∀ y ∈ kidsN TM.sizeF (nds l) (rd_T46 l i).f2 j, 1 ≤ y := by
      intro y hy
      unfold kidsN at hy
      obtain ⟨z, hz, rfl⟩ := List.mem_map.1 hy
      obtain ⟨q, hq, rfl⟩ := List.mem_iff_getElem.1 (List.mem_of_mem_take hz)
      have h1 := hks.2 q hq
      have h2 : rd (rd_T46 l i).f2 (q : Int) = (rd_T46 l i).f2[q] := by simp [rd, List.getD_eq_getElem?_getD, List.getElem?_eq_getElem hq]
      rw [h2] at h1
      exact (TM.size_pos hM _ (by rw [nds_length]; omega)).1
    have hp2 : ∀ y ∈ kidsN TM.depthF (nds l) (rd_T46 l i).f2 j, 0 ≤ y ∧ y ≤ 1000000 := by
      intro y hy
      unfold kidsN at hy
      obtain ⟨z, hz, rfl⟩ := List.mem_map.1 hy
      obtain ⟨q, hq, rfl⟩ := List.mem_iff_getElem.1 (List.mem_of_mem_take hz)
      have h1 := hks.2 q hq
      have h2 : rd (rd_T46 l i).f2 (q : Int) = (rd_T46 l i).f2[q] := by simp [rd, List.getD_eq_getElem?_getD, List.getElem?_eq_getElem hq]
      rw [h2] at h1
      have := TM.depth_bd hM (rd_T46 l i).f2[q].toNat (by rw [nds_length]; omega)
      omega
    have hsum := sum_nonneg _ hp1
    have hmax := TM.maxL_bd _ 1000000 (fun y hy => (hp2 y hy).2) (by omega)
    rw [List.sum_append, maxL_snoc _ _ (fun y hy => (hp2 y hy).1) (by omega)] at hk
    simp only [List.sum_cons, List.sum_nil, Int.add_zero] at hk
    generalize TM.up TM.sizeF 0 (nds l) x.toNat = sx at s1 b1 hk
    generalize TM.up TM.depthF 0 (nds l) x.toNat = dx at s2 b2 hk
    generalize (kidsN TM.sizeF (nds l) (rd_T46 l i).f2 j).sum = ss at hk hsum ⊢
    generalize TM.maxL (kidsN TM.depthF (nds l) (rd_T46 l i).f2 j) = ds at hk hmax ⊢
    have w1 : wrap64 (9223372036854775807 - min TM.top (1 + ss)) = 9223372036854775807 - min TM.top (1 + ss) := by unfold TM.top wrap64; omega
    have w2 : wrap64 (dx + 1) = dx + 1 := by unfold wrap64; omega
    refine ⟨k + 1, ?_⟩
    rw [stratagemref19_Sizes.l1, hlen, hf2, if_pos (by omega), if_pos (by omega), if_pos (by omega), if_pos (by omega), hx, if_pos q0, hL4, hL5, if_pos q1, s1, s2, w1, w2, w64 (by omega)]
    have em : (if dx + 1 > 1 + ds then dx + 1 else 1 + ds) = 1 + max ds dx := by split <;> omega
    by_cases hs : sx > 9223372036854775807 - min TM.top (1 + ss)
    · rw [if_pos hs, if_pos q1]
      have e1 : min TM.top (1 + (ss + sx)) = 9223372036854775807 := by unfold TM.top at hs ⊢; omega
      rw [e1] at hk
      rw [← hk, ← em]
      split <;> rfl
    · rw [if_neg hs, if_pos q1]
      have e1 : min TM.top (1 + (ss + sx)) = min TM.top (1 + ss) + sx := by unfold TM.top at hs ⊢; omega
      have e2 : wrap64 (min TM.top (1 + ss) + sx) = min TM.top (1 + ss) + sx := by unfold TM.top at hs ⊢; unfold wrap64; omega
      rw [e1] at hk
      rw [e2, ← hk, ← em]
      split <;> rfl
theorem sizes_l0 (l : List S46) (hM : TM.Mays (nds l)) (hl : l.length < 1000000) : ∀ (d i : Nat), i + d = l.length →
    ∃ k, stratagemref19_Sizes.l0 k (l.map conv) (TM.upN TM.sizeF 0 (nds l) i) (TM.upN TM.depthF 0 (nds l) i) (i : Int) = some (TM.upN TM.sizeF 0 (nds l) l.length, TM.upN TM.depthF 0 (nds l) l.length) := by
  intro d
  have hlen : (l.map conv).length = l.length := List.length_map _
  induction d with
  | zero =>
    intro i hi
    refine ⟨1, ?_⟩
    obtain rfl : i = l.length := by omega
    rw [stratagemref19_Sizes.l0, hlen, if_neg (by omega)]
  | succ d ih =>
    intro i hi
    have hil : i < l.length := by omega
    obtain ⟨k, hk⟩ := sizes_l1 l hM i hil hl (ih (i + 1) (by omega)) (rd_T46 l i).f2.length 0 (by omega)
    refine ⟨k + 1, ?_⟩
    rw [stratagemref19_Sizes.l0, hlen, if_pos (by omega), ← hk]
    simp only [kidsN, List.take_zero, List.map_nil, List.sum_nil, TM.maxL, List.foldr_nil]
    rfl
theorem sizesRef (l : List S46) (hM : TM.Mays (nds l)) (hl : l.length < 1000000) : ∃ k, stratagemref19_Sizes.f k (l.map conv) = some (TM.upN TM.sizeF 0 (nds l) l.length, TM.upN TM.depthF 0 (nds l) l.length) := by
  obtain ⟨k, hk⟩ := sizes_l0 l hM hl l.length 0 (by omega)
  exact ⟨k, hk⟩

/-! ### Large -/
/-- What is looked at: not too many nodes, kids, nodes unfolded. -/
def Small (l : List S46) : Prop := l.length ≤ 200 ∧ (∀ n ∈ l, n.f2.length ≤ 200) ∧ (mayB l = true → sizeOf l ≤ 400)
theorem large_l0 (l : List S46) (hl : l.length ≤ 200) : ∀ (d i : Nat), i + d = l.length → (∀ j : Nat, j < i → (rd_T46 l j).f2.length ≤ 200) →
    ∃ k q, stratagemlaw19_Large.l0 k l l (l.length : Int) (i : Int) = some q ∧ (q = false → Small l) := by
  intro d
  induction d with
  | zero =>
    intro i hi hb
    have hall : ∀ n ∈ l, n.f2.length ≤ 200 := by
      intro n hn
      obtain ⟨q, hq, rfl⟩ := List.mem_iff_getElem.1 hn
      have := hb q (by omega)
      have e : rd_T46 l (q : Int) = l[q] := by unfold rd_T46; simp [List.getD_eq_getElem?_getD, List.getElem?_eq_getElem hq]
      rw [e] at this
      exact this
    have hown : ∃ k, stratagemlaw19_Own.f k l = some (l.map conv) := by
      obtain ⟨k, hk⟩ := own_l0 l (by omega) l.length 0 [] (by omega) rfl
      exact ⟨k, by unfold stratagemlaw19_Own.f; simpa using hk⟩
    obtain ⟨k1, hk1⟩ := hown
    obtain ⟨k2, hk2⟩ := mayRef l (by omega) (fun n hn => by have := hall n hn; omega)
    have M1 := fun k (h : k1 ≤ k) => at_rounds (stratagemlaw19_Own.mono l) h hk1
    have M2 := fun k (h : k2 ≤ k) => at_rounds (stratagemref19_May.mono (l.map conv)) h hk2
    cases hmay : mayB l with
    | false =>
      refine ⟨max k1 k2 + 1, false, ?_, fun _ => ⟨hl, hall, fun h => by rw [hmay] at h; cases h⟩⟩
      rw [stratagemlaw19_Large.l0, if_neg (by omega), M1 _ (by omega)]
      simp only [Option.bind_some]
      rw [M2 _ (by omega), hmay]
      rfl
    | true =>
      obtain ⟨hM, h0, _⟩ := (mayB_iff l).1 hmay
      obtain ⟨k3, hk3⟩ := sizesRef l hM (by omega)
      have M3 := fun k (h : k3 ≤ k) => at_rounds (stratagemref19_Sizes.mono (l.map conv)) h hk3
      have hL : (TM.upN TM.sizeF 0 (nds l) l.length).length = l.length := TM.upN_length _
      have hw : wrap64 ((l.length : Int) - 1) = (l.length : Int) - 1 := by unfold wrap64; omega
      have hr : rd (TM.upN TM.sizeF 0 (nds l) l.length) ((l.length : Int) - 1) = sizeOf l := by
        rw [rd_upN TM.sizeF (nds l) l.length _ (by omega) (by omega)]
        unfold sizeOf TM.size
        rw [hmay, nds_length, show ((l.length : Int) - 1).toNat = l.length - 1 by omega]
        rfl
      refine ⟨max k1 (max k2 k3) + 1, decide (sizeOf l > 400), ?_, fun h => ⟨hl, hall, fun _ => by simpa using h⟩⟩
      rw [stratagemlaw19_Large.l0, if_neg (by omega), M1 _ (by omega)]
      simp only [Option.bind_some]
      rw [M2 _ (by omega), hmay]
      simp only [Option.bind_some, if_true]
      rw [M3 _ (by omega)]
      simp only [Option.bind_some]
      rw [hL, hw, if_pos (by omega), if_pos (by omega), hr]
  | succ d ih =>
    intro i hi hb
    have hil : i < l.length := by omega
    by_cases hg : (((rd_T46 l i).f2).length : Int) > 200
    · refine ⟨1, true, ?_, fun h => by cases h⟩
      rw [stratagemlaw19_Large.l0, if_pos (by omega), if_pos (by omega), if_pos (by omega), if_pos hg]
    · obtain ⟨k, q, hk, hq⟩ := ih (i + 1) (by omega) fun j hj => by
        by_cases e : j = i
        · subst e; omega
        · exact hb j (by omega)
      refine ⟨k + 1, q, ?_, hq⟩
      rw [stratagemlaw19_Large.l0, if_pos (by omega), if_pos (by omega), if_pos (by omega), if_neg hg, w64 (by omega)]
      exact hk
theorem large_any (A : Option Addr) (c : Nat) (l : List S46) (w : World) (hC : k46.C w A l.length l) (hc : l.length ≤ c) :
    Calls Tryd.prog 7 #[.slice A l.length c] w fun e w' => (∃ q : Bool, e = .returned (.bool q) ∧ (q = false → Small l)) ∧ Below w.heap.size w w' := by
  have : ∃ k q, stratagemlaw19_Large.f k l = some q ∧ (q = false → Small l) := by
    by_cases h : (l.length : Int) > 200
    · refine ⟨0, true, ?_, fun h => by cases h⟩
      unfold stratagemlaw19_Large.f
      rw [if_pos h]
    · obtain ⟨k, q, hk, hq⟩ := large_l0 l (by omega) l.length 0 (by omega) fun j hj => by omega
      refine ⟨k, q, ?_, hq⟩
      unfold stratagemlaw19_Large.f
      rw [if_neg h]
      exact hk
  obtain ⟨k, q, hk, hq⟩ := this
  refine (stratagemlaw19_Large.calls k A c l q w hC hc hk).mono ?_
  rintro e w' ⟨rfl, hb⟩
  exact ⟨⟨q, rfl, hq⟩, hb⟩
end Go.Proofs.YtlgnogpjmdhflaaDoor
