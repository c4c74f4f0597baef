/- Plain facts on trees of nodes with kids, their texts, and how equal nodes are put together: no program in sight. -/
namespace Go.Proofs.YtlgnogpjmdhflaaDoor.TM

abbrev Nd := Int × Int × List Int
abbrev Txt := List UInt8

/-! ### Texts -/
def dg (n : Int) : Txt := if n < 10 then [UInt8.ofNat (48 + n.toNat)] else [UInt8.ofNat (48 + (n / 10).toNat), UInt8.ofNat (48 + (n % 10).toNat)]
def form (k p : Int) (ts : List Txt) : Txt := 40 :: (dg k ++ 32 :: (dg p ++ (ts.flatten ++ [41])))

theorem ofNat_toNat (n : Nat) (h : n < 256) : (UInt8.ofNat n).toNat = n := by simp; omega

theorem ofNat_inj {a b : Nat} (ha : a < 256) (hb : b < 256) (h : UInt8.ofNat a = UInt8.ofNat b) : a = b := by
  have := congrArg UInt8.toNat h
  rwa [ofNat_toNat a ha, ofNat_toNat b hb] at this

theorem ofNat_ne {a : Nat} {c : UInt8} (ha : a < 256) (hc : c.toNat < 48) (h48 : 48 ≤ a) (h : UInt8.ofNat a = c) : False := by
  have := congrArg UInt8.toNat h
  rw [ofNat_toNat a ha] at this
  omega

theorem dg_sep {k k' : Int} {c c' : UInt8} {r r' : Txt} (h0 : 0 ≤ k) (h1 : k < 100) (h0' : 0 ≤ k') (h1' : k' < 100) (hc : c.toNat < 48) (hc' : c'.toNat < 48)
    (h : dg k ++ c :: r = dg k' ++ c' :: r') : k = k' ∧ c = c' ∧ r = r' := by
  unfold dg at h
  by_cases a : k < 10 <;> by_cases b : k' < 10
  · rw [if_pos a, if_pos b] at h
    simp only [List.cons_append, List.nil_append, List.cons.injEq] at h
    have := ofNat_inj (by omega) (by omega) h.1
    exact ⟨by omega, h.2.1, h.2.2⟩
  · rw [if_pos a, if_neg b] at h
    simp only [List.cons_append, List.nil_append, List.cons.injEq] at h
    exact (ofNat_ne (by omega) hc (by omega) h.2.1.symm).elim
  · rw [if_neg a, if_pos b] at h
    simp only [List.cons_append, List.nil_append, List.cons.injEq] at h
    exact (ofNat_ne (by omega) hc' (by omega) h.2.1).elim
  · rw [if_neg a, if_neg b] at h
    simp only [List.cons_append, List.nil_append, List.cons.injEq] at h
    have e1 := ofNat_inj (by omega) (by omega) h.1
    have e2 := ofNat_inj (by omega) (by omega) h.2.1
    exact ⟨by omega, h.2.2.1, h.2.2.2⟩

def IsText : Nat → Txt → Prop
  | 0, _ => False
  | d + 1, s => ∃ k p ts, (0 ≤ k ∧ k < 100) ∧ (0 ≤ p ∧ p < 100) ∧ (∀ t ∈ ts, IsText d t) ∧ s = form k p ts

theorem IsText.head {d : Nat} {s : Txt} (h : IsText d s) : ∃ r, s = 40 :: r := by
  cases d with
  | zero => exact h.elim
  | succ d =>
    obtain ⟨k, p, ts, _, _, _, rfl⟩ := h
    exact ⟨_, rfl⟩

theorem flat_head (d : Nat) (ts : List Txt) (r : Txt) (h : ∀ t ∈ ts, IsText d t) : ∃ c q, ts.flatten ++ 41 :: r = c :: q ∧ c.toNat < 48 := by
  cases ts with
  | nil => exact ⟨41, r, rfl, by decide⟩
  | cons t ts =>
    obtain ⟨q, rfl⟩ := (h t (by simp)).head
    exact ⟨40, q ++ (ts.flatten ++ 41 :: r), by simp, by decide⟩

theorem flat_sep {d d' : Nat} (ih : ∀ (d' : Nat) (s s' r r' : Txt), IsText d s → IsText d' s' → s ++ r = s' ++ r' → s = s' ∧ r = r') :
    ∀ (ts ts' : List Txt) (r r' : Txt), (∀ t ∈ ts, IsText d t) → (∀ t ∈ ts', IsText d' t) → ts.flatten ++ 41 :: r = ts'.flatten ++ 41 :: r' → ts = ts' ∧ r = r' := by
  intro ts
  induction ts with
  | nil =>
    intro ts' r r' _ h' e
    cases ts' with
    | nil => simp at e; exact ⟨rfl, e⟩
    | cons t' ts' =>
      obtain ⟨q, rfl⟩ := (h' t' (by simp)).head
      simp at e
  | cons t ts iht =>
    intro ts' r r' h h' e
    cases ts' with
    | nil =>
      obtain ⟨q, rfl⟩ := (h t (by simp)).head
      simp at e
    | cons t' ts' =>
      simp only [List.flatten_cons, List.append_assoc] at e
      obtain ⟨e1, e2⟩ := ih d' t t' _ _ (h t (by simp)) (h' t' (by simp)) e
      obtain ⟨e3, e4⟩ := iht ts' r r' (fun x hx => h x (by simp [hx])) (fun x hx => h' x (by simp [hx])) e2
      exact ⟨by rw [e1, e3], e4⟩

theorem text_sep : ∀ (d d' : Nat) (s s' r r' : Txt), IsText d s → IsText d' s' → s ++ r = s' ++ r' → s = s' ∧ r = r' := by
  intro d
  induction d with
  | zero => intro d' s s' r r' h; exact h.elim
  | succ d ih =>
    intro d' s s' r r' h h' e
    cases d' with
    | zero => exact h'.elim
    | succ d' =>
      obtain ⟨k, p, ts, hk, hp, hts, rfl⟩ := h
      obtain ⟨k', p', ts', hk', hp', hts', rfl⟩ := h'
      unfold form at e ⊢
      simp only [List.cons_append, List.append_assoc, List.cons.injEq, true_and, List.nil_append] at e
      obtain ⟨rfl, _, e⟩ := dg_sep hk.1 hk.2 hk'.1 hk'.2 (by decide) (by decide) e
      obtain ⟨c, q, eq1, hc⟩ := flat_head d ts r hts
      obtain ⟨c', q', eq2, hc'⟩ := flat_head d' ts' r' hts'
      rw [eq1, eq2] at e
      obtain ⟨rfl, rfl, rfl⟩ := dg_sep hp.1 hp.2 hp'.1 hp'.2 hc hc' e
      obtain ⟨rfl, rfl⟩ := flat_sep ih ts ts' r r' hts hts' (eq1.trans eq2.symm)
      exact ⟨rfl, rfl⟩

theorem form_inj {d d' : Nat} {k k' p p' : Int} {ts ts' : List Txt} (hk : 0 ≤ k ∧ k < 100) (hk' : 0 ≤ k' ∧ k' < 100) (hp : 0 ≤ p ∧ p < 100) (hp' : 0 ≤ p' ∧ p' < 100)
    (hts : ∀ t ∈ ts, IsText d t) (hts' : ∀ t ∈ ts', IsText d' t) (e : form k p ts = form k' p' ts') : k = k' ∧ p = p' ∧ ts = ts' := by
  unfold form at e
  simp only [List.cons.injEq, true_and] at e
  obtain ⟨rfl, _, e⟩ := dg_sep hk.1 hk.2 hk'.1 hk'.2 (by decide) (by decide) e
  obtain ⟨c, q, eq1, hc⟩ := flat_head d ts [] hts
  obtain ⟨c', q', eq2, hc'⟩ := flat_head d' ts' [] hts'
  rw [eq1, eq2] at e
  obtain ⟨rfl, rfl, rfl⟩ := dg_sep hp.1 hp.2 hp'.1 hp'.2 hc hc' e
  obtain ⟨rfl, _⟩ := flat_sep (text_sep d) ts ts' [] [] hts hts' (eq1.trans eq2.symm)
  exact ⟨rfl, rfl, rfl⟩

theorem IsText.mono {d : Nat} : ∀ {d' : Nat} {s : Txt}, IsText d s → d ≤ d' → IsText d' s := by
  induction d with
  | zero => intro d' s h; exact h.elim
  | succ d ih =>
    intro d' s h hd
    obtain ⟨k, p, ts, hk, hp, hts, rfl⟩ := h
    obtain ⟨m, rfl⟩ : ∃ m, d' = m + 1 := ⟨d' - 1, by omega⟩
    exact ⟨k, p, ts, hk, hp, fun t ht => ih (hts t ht) (by omega), rfl⟩

/-! ### Nodes, and what is told of each by those of its kids -/
def nd (t : List Nd) (i : Nat) : Nd := t.getD i (0, 0, [])
def fitsB (k p : Int) (n : Nat) : Bool := (k == 0 && p == 0 && n == 0) || (k == 1 && decide (0 ≤ p) && decide (p ≤ 63) && n == 1) || (k == 2 && p == 0 && decide (1 ≤ n) && decide (n ≤ 64))
/-- A node may stand at a place. -/
def ok (i : Nat) (n : Nd) : Prop := fitsB n.1 n.2.1 n.2.2.length = true ∧ ∀ k ∈ n.2.2, 0 ≤ k ∧ k < (i : Int)
def Mays (t : List Nd) : Prop := ∀ i, i < t.length → ok i (nd t i)

theorem fits_bd {k p : Int} {n : Nat} (h : fitsB k p n = true) : (0 ≤ k ∧ k < 100) ∧ (0 ≤ p ∧ p < 100) ∧ n ≤ 64 := by
  simp [fitsB] at h
  omega

def upN {α : Type} (f : Int → Int → List α → α) (d : α) (t : List Nd) : Nat → List α
  | 0 => []
  | n + 1 => upN f d t n ++ [f (nd t n).1 (nd t n).2.1 ((nd t n).2.2.map fun k => (upN f d t n).getD k.toNat d)]

section
variable {α : Type} {f : Int → Int → List α → α} {d : α} {t : List Nd}
theorem upN_length (n : Nat) : (upN f d t n).length = n := by
  induction n with
  | zero => rfl
  | succ n ih => simp [upN, ih]
theorem upN_more (n m i : Nat) (hi : i < n) (hm : n ≤ m) : (upN f d t m).getD i d = (upN f d t n).getD i d := by
  induction m with
  | zero => have : n = 0 := by omega
            omega
  | succ m ih =>
    by_cases e : n = m + 1
    · rw [e]
    · rw [← ih (by omega)]
      have hl : i < (upN f d t m).length := by rw [upN_length]; omega
      simp only [upN, List.getD_eq_getElem?_getD]
      rw [List.getElem?_append_left hl]

/-- What is told of the node i. -/
def up (f : Int → Int → List α → α) (d : α) (t : List Nd) (i : Nat) : α := (upN f d t (i + 1)).getD i d

theorem up_of (n i : Nat) (h : i < n) : (upN f d t n).getD i d = up f d t i := upN_more (i + 1) n i (by omega) (by omega)

theorem up_eq (i : Nat) (h : ∀ k ∈ (nd t i).2.2, 0 ≤ k ∧ k < (i : Int)) : up f d t i = f (nd t i).1 (nd t i).2.1 ((nd t i).2.2.map fun k => up f d t k.toNat) := by
  unfold up
  rw [upN]
  have hl : (upN f d t i).length = i := upN_length i
  rw [List.getD_eq_getElem?_getD, List.getElem?_append_right (by omega)]
  simp only [hl, Nat.sub_self, List.getElem?_cons_zero, Option.getD_some]
  congr 1
  refine List.map_congr_left fun k hk => ?_
  have := h k hk
  exact up_of i k.toNat (by omega)

theorem upN_eq (n : Nat) : upN f d t n = (List.range n).map (up f d t) := by
  refine List.ext_getElem? fun i => ?_
  by_cases h : i < n
  · have h1 : i < (upN f d t n).length := by rw [upN_length]; exact h
    have := up_of (f := f) (d := d) (t := t) n i h
    rw [List.getD_eq_getElem?_getD, List.getElem?_eq_getElem h1] at this
    rw [List.getElem?_eq_getElem h1]
    simp only [Option.getD_some] at this
    simp [h, this]
  · rw [List.getElem?_eq_none (by rw [upN_length]; omega), List.getElem?_eq_none (by simp; omega)]

/-- Two lists of nodes that agree up to a place tell the same of it. -/
theorem up_congr {t' : List Nd} : ∀ i, Mays t → i < t.length → (∀ j, j ≤ i → nd t' j = nd t j) → up f d t' i = up f d t i := by
  intro i
  induction i using Nat.strongRecOn with
  | ind i ih =>
    intro hm hi ha
    have hk := (hm i hi).2
    rw [up_eq i hk, up_eq i (by rw [ha i (Nat.le_refl _)]; exact hk), ha i (Nat.le_refl _)]
    congr 1
    refine List.map_congr_left fun k hk' => ?_
    have := hk k hk'
    exact ih k.toNat (by omega) hm (by omega) (fun j hj => ha j (by omega))
end

theorem nd_append_left (t u : List Nd) (i : Nat) (h : i < t.length) : nd (t ++ u) i = nd t i := by
  unfold nd
  simp only [List.getD_eq_getElem?_getD]
  rw [List.getElem?_append_left h]
theorem nd_append_at (t : List Nd) (n : Nd) : nd (t ++ [n]) t.length = n := by
  unfold nd
  simp

/-- The text of a node. -/
def T (t : List Nd) (i : Nat) : Txt := up form [] t i

theorem T_eq {t : List Nd} (hm : Mays t) {i : Nat} (hi : i < t.length) : T t i = form (nd t i).1 (nd t i).2.1 ((nd t i).2.2.map fun k => T t k.toNat) := up_eq i (hm i hi).2

theorem T_isText {t : List Nd} (hm : Mays t) : ∀ i, i < t.length → IsText (i + 1) (T t i) := by
  intro i
  induction i using Nat.strongRecOn with
  | ind i ih =>
    intro hi
    have h := hm i hi
    have hb := fits_bd h.1
    refine ⟨_, _, _, hb.1, hb.2.1, ?_, T_eq hm hi⟩
    intro s hs
    obtain ⟨k, hk, rfl⟩ := List.mem_map.1 hs
    have := h.2 k hk
    exact (ih k.toNat (by omega) (by omega)).mono (by omega)

theorem T_kids {t : List Nd} (hm : Mays t) {i : Nat} (hi : i < t.length) : ∀ s ∈ (nd t i).2.2.map (fun k => T t k.toNat), IsText (i + 1) s := by
  intro s hs
  obtain ⟨k, hk, rfl⟩ := List.mem_map.1 hs
  have := (hm i hi).2 k hk
  exact (T_isText hm k.toNat (by omega)).mono (by omega)

theorem T_inj {t t' : List Nd} (hm : Mays t) (hm' : Mays t') {i j : Nat} (hi : i < t.length) (hj : j < t'.length) (e : T t i = T t' j) :
    (nd t i).1 = (nd t' j).1 ∧ (nd t i).2.1 = (nd t' j).2.1 ∧ (nd t i).2.2.map (fun k => T t k.toNat) = (nd t' j).2.2.map (fun k => T t' k.toNat) := by
  rw [T_eq hm hi, T_eq hm' hj] at e
  have b := fits_bd (hm i hi).1
  have b' := fits_bd (hm' j hj).1
  exact form_inj b.1 b'.1 b.2.1 b'.2.1 (T_kids hm hi) (T_kids hm' hj) e

theorem map_transfer {α β : Type} {f : Int → α} {g : Int → α} {f' g' : Int → β} : ∀ {l l' : List Int}, l.map f = l'.map g → (∀ a ∈ l, ∀ b ∈ l', f a = g b → f' a = g' b) → l.map f' = l'.map g' := by
  intro l
  induction l with
  | nil => intro l' e _; cases l' with
    | nil => rfl
    | cons b l' => simp at e
  | cons a l ih =>
    intro l' e h
    cases l' with
    | nil => simp at e
    | cons b l' =>
      simp only [List.map_cons, List.cons.injEq] at e ⊢
      exact ⟨h a (by simp) b (by simp) e.1, ih e.2 fun x hx y hy => h x (by simp [hx]) y (by simp [hy])⟩

/-- What is told of nodes by their kids is one for nodes of one text. -/
theorem up_of_T {α : Type} {f : Int → Int → List α → α} {d : α} {t t' : List Nd} (hm : Mays t) (hm' : Mays t') : ∀ i j, i < t.length → j < t'.length → T t i = T t' j → up f d t i = up f d t' j := by
  intro i
  induction i using Nat.strongRecOn with
  | ind i ih =>
    intro j hi hj e
    obtain ⟨e1, e2, e3⟩ := T_inj hm hm' hi hj e
    rw [up_eq i (hm i hi).2, up_eq j (hm' j hj).2, e1, e2]
    congr 1
    refine map_transfer e3 fun a ha b hb eab => ?_
    have h1 := (hm i hi).2 a ha
    have h2 := (hm' j hj).2 b hb
    exact ih a.toNat (by omega) b.toNat (by omega) (by omega) eab

/-! ### Equal nodes are put together -/
def put (out : List Nd) (n : Nd) : List Nd × Nat := if n ∈ out then (out, out.idxOf n) else (out ++ [n], out.length)
def kidsOf (g : Nat → List Nd → List Nd × Nat) : List Int → List Nd → List Nd × List Int
  | [], out => (out, [])
  | k :: ks, out => ((kidsOf g ks (g k.toNat out).1).1, ((g k.toNat out).2 : Int) :: (kidsOf g ks (g k.toNat out).1).2)
def shr (t : List Nd) : Nat → Nat → List Nd → List Nd × Nat
  | 0, _, out => (out, 0)
  | m + 1, i, out => put (kidsOf (shr t m) (nd t i).2.2 out).1 ((nd t i).1, (nd t i).2.1, (kidsOf (shr t m) (nd t i).2.2 out).2)

theorem nodup_at {α : Type} {l : List α} (h : l.Nodup) {i j : Nat} (hi : i < l.length) (hj : j < l.length) (e : l[i] = l[j]) : i = j := by
  unfold List.Nodup at h
  rw [List.pairwise_iff_getElem] at h
  rcases Nat.lt_trichotomy i j with hlt | heq | hgt
  · exact (h i j hi hj hlt e).elim
  · exact heq
  · exact (h j i hj hi hgt e.symm).elim

/-- Nodes may be, and no two are the same. -/
def Ok (out : List Nd) : Prop := Mays out ∧ out.Nodup

theorem Ok.inj {out : List Nd} (h : Ok out) : ∀ i j, i < out.length → j < out.length → T out i = T out j → i = j := by
  intro i
  induction i using Nat.strongRecOn with
  | ind i ih =>
    intro j hi hj e
    obtain ⟨e1, e2, e3⟩ := T_inj h.1 h.1 hi hj e
    have e4 : (nd out i).2.2.map id = (nd out j).2.2.map id := by
      refine map_transfer e3 fun a ha b hb eab => ?_
      have h1 := (h.1 i hi).2 a ha
      have h2 := (h.1 j hj).2 b hb
      have := ih a.toNat (by omega) b.toNat (by omega) (by omega) eab
      simp only [id]
      omega
    simp only [List.map_id] at e4
    have e5 : nd out i = nd out j := Prod.ext e1 (Prod.ext e2 e4)
    unfold nd at e5
    rw [List.getD_eq_getElem?_getD, List.getD_eq_getElem?_getD, List.getElem?_eq_getElem hi, List.getElem?_eq_getElem hj] at e5
    simp only [Option.getD_some] at e5
    exact nodup_at h.2 hi hj e5

theorem Mays.snoc {out : List Nd} {n : Nd} (h : Mays out) (hn : ok out.length n) : Mays (out ++ [n]) := by
  intro i hi
  by_cases e : i < out.length
  · rw [nd_append_left _ _ _ e]; exact h i e
  · have : i = out.length := by simp at hi; omega
    subst this
    rw [nd_append_at]; exact hn

theorem T_append {out : List Nd} (h : Mays out) (u : List Nd) {i : Nat} (hi : i < out.length) : T (out ++ u) i = T out i :=
  up_congr i h hi fun j hj => nd_append_left _ _ _ (by omega)

theorem T_snoc {out : List Nd} {n : Nd} (h : Mays out) (hn : ok out.length n) : T (out ++ [n]) out.length = form n.1 n.2.1 (n.2.2.map fun k => T out k.toNat) := by
  rw [T_eq (h.snoc hn) (by simp), nd_append_at]
  congr 1
  refine List.map_congr_left fun k hk => ?_
  have := hn.2 k hk
  exact T_append h [n] (by omega)

theorem nd_idxOf {out : List Nd} {n : Nd} (h : n ∈ out) : nd out (out.idxOf n) = n := by
  have hl := List.idxOf_lt_length_of_mem h
  unfold nd
  rw [List.getD_eq_getElem?_getD, List.getElem?_eq_getElem hl]
  simp

theorem put_spec {out : List Nd} {n : Nd} (h : Ok out) (hn : ok out.length n) :
    Ok (put out n).1 ∧ out <+: (put out n).1 ∧ (put out n).2 < (put out n).1.length ∧ T (put out n).1 (put out n).2 = form n.1 n.2.1 (n.2.2.map fun k => T out k.toNat) := by
  unfold put
  by_cases e : n ∈ out
  · rw [if_pos e]
    have hl := List.idxOf_lt_length_of_mem e
    refine ⟨h, List.prefix_refl _, hl, ?_⟩
    show T out (out.idxOf n) = _
    rw [T_eq h.1 hl, nd_idxOf e]
  · rw [if_neg e]
    refine ⟨⟨h.1.snoc hn, ?_⟩, List.prefix_append _ _, by simp, T_snoc h.1 hn⟩
    rw [List.nodup_append]
    refine ⟨h.2, by simp, ?_⟩
    intro a ha b hb
    simp only [List.mem_singleton] at hb
    subst hb
    intro e'; subst e'; exact e ha

/-- If a node of that text is there already, it is found, and nothing turns. -/
theorem put_there {out : List Nd} {n : Nd} (h : Ok out) (hn : ok out.length n) {j : Nat} (hj : j < out.length) (e : T out j = form n.1 n.2.1 (n.2.2.map fun k => T out k.toNat)) : put out n = (out, j) := by
  have hb := fits_bd hn.1
  rw [T_eq h.1 hj] at e
  have hb' := fits_bd (h.1 j hj).1
  obtain ⟨e1, e2, e3⟩ := form_inj (d' := out.length + 1) hb'.1 hb.1 hb'.2.1 hb.2.1 (T_kids h.1 hj) (by
    intro s hs
    obtain ⟨k, hk, rfl⟩ := List.mem_map.1 hs
    have := hn.2 k hk
    exact (T_isText h.1 k.toNat (by omega)).mono (by omega)) e
  have e4 : (nd out j).2.2.map id = n.2.2.map id := by
    refine map_transfer e3 fun a ha b hb eab => ?_
    have h1 := (h.1 j hj).2 a ha
    have h2 := hn.2 b hb
    have := h.inj a.toNat b.toNat (by omega) (by omega) eab
    simp only [id]
    omega
  simp only [List.map_id] at e4
  have e5 : nd out j = n := Prod.ext e1 (Prod.ext e2 e4)
  have hmem : n ∈ out := by
    rw [← e5]
    unfold nd
    rw [List.getD_eq_getElem?_getD, List.getElem?_eq_getElem hj]
    simp
  unfold put
  rw [if_pos hmem]
  congr 1
  have hl := List.idxOf_lt_length_of_mem hmem
  refine h.inj _ _ hl hj ?_
  rw [T_eq h.1 hl, T_eq h.1 hj, nd_idxOf hmem, e5]

theorem form_longer {k p : Int} {ts : List Txt} {s : Txt} (h : s ∈ ts) : s.length < (form k p ts).length := by
  have h1 : s.length ≤ ts.flatten.length := by
    induction ts with
    | nil => cases h
    | cons a l ih =>
      rw [List.flatten_cons, List.length_append]
      rcases List.mem_cons.1 h with rfl | h
      · omega
      · have := ih h; omega
  unfold form
  simp only [List.length_cons, List.length_append]
  omega

theorem prefix_T {out o : List Nd} (h : Mays out) (hp : out <+: o) {i : Nat} (hi : i < out.length) : T o i = T out i := by
  obtain ⟨u, rfl⟩ := hp
  exact T_append h u hi

/-- What a step that puts a node in leaves. -/
def Put1 (t : List Nd) (i : Nat) (out : List Nd) (r : List Nd × Nat) : Prop :=
  Ok r.1 ∧ out <+: r.1 ∧ r.2 < r.1.length ∧ T r.1 r.2 = T t i ∧ ∀ j, j < r.1.length → j < out.length ∨ ∃ i', i' ≤ i ∧ T r.1 j = T t i' ∧ (T t i').length ≤ (T t i).length

theorem kidsOf_spec {t : List Nd} {g : Nat → List Nd → List Nd × Nat} : ∀ (ks : List Int) (out : List Nd), Ok out → (∀ k ∈ ks, ∀ o, Ok o → Put1 t k.toNat o (g k.toNat o)) →
    Ok (kidsOf g ks out).1 ∧ out <+: (kidsOf g ks out).1 ∧ (kidsOf g ks out).2.length = ks.length ∧ (∀ k ∈ (kidsOf g ks out).2, 0 ≤ k ∧ k < ((kidsOf g ks out).1.length : Int)) ∧
    (kidsOf g ks out).2.map (fun k => T (kidsOf g ks out).1 k.toNat) = ks.map (fun k => T t k.toNat) ∧
    ∀ j, j < (kidsOf g ks out).1.length → j < out.length ∨ ∃ k ∈ ks, ∃ i', i' ≤ k.toNat ∧ T (kidsOf g ks out).1 j = T t i' ∧ (T t i').length ≤ (T t k.toNat).length := by
  intro ks
  induction ks with
  | nil =>
    intro out h _
    exact ⟨h, List.prefix_refl _, rfl, (fun k hk => by cases hk), rfl, fun j hj => .inl hj⟩
  | cons k ks ih =>
    intro out h hg
    obtain ⟨a1, a2, a3, a4, a5⟩ := hg k (by simp) out h
    obtain ⟨b1, b2, b3, b4, b5, b6⟩ := ih (g k.toNat out).1 a1 fun x hx => hg x (by simp [hx])
    have hlen := b2.length_le
    refine ⟨b1, a2.trans b2, by simp [kidsOf, b3], ?_, ?_, ?_⟩
    · intro x hx
      simp only [kidsOf, List.mem_cons] at hx
      rcases hx with rfl | hx
      · simp only [kidsOf]; omega
      · exact b4 x hx
    · simp only [kidsOf, List.map_cons, Int.toNat_natCast, b5]
      rw [prefix_T a1.1 b2 a3, a4]
    · intro j hj
      simp only [kidsOf] at hj ⊢
      rcases b6 j hj with hj' | ⟨k', hk', i', hi', e, hl⟩
      · rcases a5 j hj' with hj'' | ⟨i', hi', e, hl⟩
        · exact .inl hj''
        · exact .inr ⟨k, by simp, i', hi', by rw [prefix_T a1.1 b2 hj', e], hl⟩
      · exact .inr ⟨k', by simp [hk'], i', hi', e, hl⟩

theorem shr_spec {t : List Nd} (hm : Mays t) : ∀ (m i : Nat) (out : List Nd), i < m → i < t.length → Ok out → Put1 t i out (shr t m i out) := by
  intro m
  induction m with
  | zero => intro i out h; omega
  | succ m ih =>
    intro i out hi hl h
    have hok := hm i hl
    obtain ⟨b1, b2, b3, b4, b5, b6⟩ := kidsOf_spec (t := t) (g := shr t m) (nd t i).2.2 out h fun k hk o ho => by
      have := hok.2 k hk
      exact ih k.toNat o (by omega) (by omega) ho
    have hn : ok (kidsOf (shr t m) (nd t i).2.2 out).1.length ((nd t i).1, (nd t i).2.1, (kidsOf (shr t m) (nd t i).2.2 out).2) := ⟨by rw [b3]; exact hok.1, b4⟩
    obtain ⟨c1, c2, c3, c4⟩ := put_spec b1 hn
    have e : T (put (kidsOf (shr t m) (nd t i).2.2 out).1 ((nd t i).1, (nd t i).2.1, (kidsOf (shr t m) (nd t i).2.2 out).2)).1 (put (kidsOf (shr t m) (nd t i).2.2 out).1 ((nd t i).1, (nd t i).2.1, (kidsOf (shr t m) (nd t i).2.2 out).2)).2 = T t i := by
      rw [c4, T_eq hm hl]
      simp only
      rw [b5]
    have hlong : ∀ k ∈ (nd t i).2.2, (T t k.toNat).length < (T t i).length := by
      intro k hk
      rw [T_eq hm hl]
      exact form_longer (List.mem_map_of_mem hk)
    refine ⟨c1, b2.trans c2, c3, e, ?_⟩
    intro j hj
    have key : j < (kidsOf (shr t m) (nd t i).2.2 out).1.length ∨ j = (put (kidsOf (shr t m) (nd t i).2.2 out).1 ((nd t i).1, (nd t i).2.1, (kidsOf (shr t m) (nd t i).2.2 out).2)).2 := by
      revert hj
      simp only [shr]
      unfold put
      split
      · intro hj; exact .inl hj
      · intro hj; simp at hj ⊢; omega
    rcases key with key | key
    · rcases b6 j key with h' | ⟨k, hk, i', hi', e', hl'⟩
      · exact .inl h'
      · have := hok.2 k hk
        have := hlong k hk
        exact .inr ⟨i', by omega, by rw [← e']; exact prefix_T b1.1 c2 key, by omega⟩
    · subst key
      exact .inr ⟨i, Nat.le_refl _, e, Nat.le_refl _⟩

theorem kidsOf_there {t : List Nd} {g : Nat → List Nd → List Nd × Nat} {out : List Nd} : ∀ (ks ks' : List Int), ks.map (fun k => T t k.toNat) = ks'.map (fun k => T out k.toNat) → (∀ k' ∈ ks', 0 ≤ k') →
    (∀ k ∈ ks, ∀ k' ∈ ks', T t k.toNat = T out k'.toNat → g k.toNat out = (out, k'.toNat)) → kidsOf g ks out = (out, ks') := by
  intro ks
  induction ks with
  | nil =>
    intro ks' e _ _
    cases ks' with
    | nil => rfl
    | cons => simp at e
  | cons k ks ih =>
    intro ks' e h0 hg
    cases ks' with
    | nil => simp at e
    | cons k' ks' =>
      simp only [List.map_cons, List.cons.injEq] at e
      have e1 := hg k (by simp) k' (by simp) e.1
      have h1 := h0 k' (by simp)
      simp only [kidsOf, e1]
      rw [ih ks' e.2 (fun x hx => h0 x (by simp [hx])) fun x hx y hy => hg x (by simp [hx]) y (by simp [hy])]
      simp only [Prod.mk.injEq, List.cons.injEq, true_and, and_true]
      omega

/-- A node whose text is there already is found, and nothing turns. -/
theorem shr_there {t : List Nd} (hm : Mays t) {out : List Nd} (h : Ok out) : ∀ (m i j : Nat), i < m → i < t.length → j < out.length → T t i = T out j → shr t m i out = (out, j) := by
  intro m
  induction m with
  | zero => intro i j hi; omega
  | succ m ih =>
    intro i j hi hl hj e
    obtain ⟨e1, e2, e3⟩ := T_inj hm h.1 hl hj e
    have hk : kidsOf (shr t m) (nd t i).2.2 out = (out, (nd out j).2.2) := by
      refine kidsOf_there (t := t) _ _ e3 (fun k' hk' => ((h.1 j hj).2 k' hk').1) fun k hk k' hk' e' => ?_
      have h1 := (hm i hl).2 k hk
      have h2 := (h.1 j hj).2 k' hk'
      exact ih k.toNat k'.toNat (by omega) (by omega) (by omega) e'
    simp only [shr, hk]
    rw [e1, e2]
    have hn : ok out.length (nd out j) := ⟨(h.1 j hj).1, fun k hk => by have := (h.1 j hj).2 k hk; omega⟩
    exact put_there h hn hj (T_eq h.1 hj)

theorem kidsOf_congr {t t' : List Nd} {g g' : Nat → List Nd → List Nd × Nat} : ∀ (ks ks' : List Int) (out : List Nd), ks.map (fun k => T t k.toNat) = ks'.map (fun k => T t' k.toNat) →
    (∀ k ∈ ks, ∀ k' ∈ ks', T t k.toNat = T t' k'.toNat → ∀ o, g k.toNat o = g' k'.toNat o) → kidsOf g ks out = kidsOf g' ks' out := by
  intro ks
  induction ks with
  | nil =>
    intro ks' out e _
    cases ks' with
    | nil => rfl
    | cons => simp at e
  | cons k ks ih =>
    intro ks' out e hg
    cases ks' with
    | nil => simp at e
    | cons k' ks' =>
      simp only [List.map_cons, List.cons.injEq] at e
      have e1 := hg k (by simp) k' (by simp) e.1 out
      simp only [kidsOf, e1]
      rw [ih ks' _ e.2 fun x hx y hy => hg x (by simp [hx]) y (by simp [hy])]

/-- Nodes of one text are put in alike. -/
theorem shr_congr {t t' : List Nd} (hm : Mays t) (hm' : Mays t') : ∀ (m m' i j : Nat) (out : List Nd), i < m → j < m' → i < t.length → j < t'.length → T t i = T t' j → shr t m i out = shr t' m' j out := by
  intro m
  induction m with
  | zero => intro m' i j out hi; omega
  | succ m ih =>
    intro m' i j out hi hj hl hl' e
    obtain ⟨n, rfl⟩ : ∃ n, m' = n + 1 := ⟨m' - 1, by omega⟩
    obtain ⟨e1, e2, e3⟩ := T_inj hm hm' hl hl' e
    have hk : kidsOf (shr t m) (nd t i).2.2 out = kidsOf (shr t' n) (nd t' j).2.2 out := by
      refine kidsOf_congr (t := t) (t' := t') _ _ out e3 fun k hk k' hk' e' o => ?_
      have h1 := (hm i hl).2 k hk
      have h2 := (hm' j hl').2 k' hk'
      exact ih n k.toNat k'.toNat o (by omega) (by omega) (by omega) (by omega) e'
    simp only [shr, hk, e1, e2]

/-! ### Share -/
theorem Ok.nil : Ok [] := ⟨fun i h => by simp at h, List.nodup_nil⟩

def share (t : List Nd) : List Nd := (shr t t.length (t.length - 1) []).1

theorem nodup_length {α : Type} [DecidableEq α] : ∀ (l l' : List α), l.Nodup → (∀ x ∈ l, x ∈ l') → l.length ≤ l'.length := by
  intro l
  induction l with
  | nil => intro l' _ _; simp
  | cons a l ih =>
    intro l' h hs
    rw [List.nodup_cons] at h
    have ha : a ∈ l' := hs a (by simp)
    have h1 := ih (l'.erase a) h.2 fun x hx => by
      have : x ≠ a := fun e => h.1 (e ▸ hx)
      exact (List.mem_erase_of_ne this).2 (hs x (by simp [hx]))
    rw [List.length_erase_of_mem ha] at h1
    have : 0 < l'.length := List.length_pos_of_mem ha
    simp only [List.length_cons]
    omega

theorem Ok.T_nodup {out : List Nd} (h : Ok out) : ((List.range out.length).map (T out)).Nodup := by
  unfold List.Nodup
  rw [List.pairwise_iff_getElem]
  intro i j hi hj hij
  simp at hi hj
  intro e
  simp at e
  have := h.inj i j hi hj e
  omega

theorem root_last {t : List Nd} (hm : Mays t) (m i : Nat) (hi : i < m) (hl : i < t.length) : (shr t m i []).2 + 1 = (shr t m i []).1.length := by
  obtain ⟨n, rfl⟩ : ∃ n, m = n + 1 := ⟨m - 1, by omega⟩
  have hok := hm i hl
  obtain ⟨b1, b2, b3, b4, b5, b6⟩ := kidsOf_spec (t := t) (g := shr t n) (nd t i).2.2 [] Ok.nil fun k hk o ho => by
    have := hok.2 k hk
    exact shr_spec hm n k.toNat o (by omega) (by omega) ho
  have hn : ok (kidsOf (shr t n) (nd t i).2.2 []).1.length ((nd t i).1, (nd t i).2.1, (kidsOf (shr t n) (nd t i).2.2 []).2) := ⟨by rw [b3]; exact hok.1, b4⟩
  have hnot : ((nd t i).1, (nd t i).2.1, (kidsOf (shr t n) (nd t i).2.2 []).2) ∉ (kidsOf (shr t n) (nd t i).2.2 []).1 := by
    intro hmem
    have hj := List.idxOf_lt_length_of_mem hmem
    have e := T_eq b1.1 hj
    rw [nd_idxOf hmem] at e
    simp only at e
    rw [b5, ← T_eq hm hl] at e
    rcases b6 _ hj with h' | ⟨k, hk, i', hi', e', hl'⟩
    · simp at h'
    · have h1 : (T t k.toNat).length < (T t i).length := by
        rw [T_eq hm hl]
        exact form_longer (List.mem_map_of_mem hk)
      rw [e] at e'
      rw [e'] at h1
      omega
  simp only [shr]
  unfold put
  rw [if_neg hnot]
  simp

section
variable {t : List Nd} (hm : Mays t) (h0 : 0 < t.length)
include hm h0
theorem share_ok : Ok (share t) := (shr_spec hm t.length (t.length - 1) [] (by omega) (by omega) Ok.nil).1
theorem share_pos : 0 < (share t).length := by
  have := (shr_spec hm t.length (t.length - 1) [] (by omega) (by omega) Ok.nil).2.2.1
  unfold share
  omega
theorem share_T : T (share t) ((share t).length - 1) = T t (t.length - 1) := by
  have h := (shr_spec hm t.length (t.length - 1) [] (by omega) (by omega) Ok.nil).2.2.2.1
  have e := root_last hm t.length (t.length - 1) (by omega) (by omega)
  unfold share
  rw [← e, Nat.add_sub_cancel]
  exact h
theorem share_le : (share t).length ≤ t.length := by
  have h := (shr_spec hm t.length (t.length - 1) [] (by omega) (by omega) Ok.nil).2.2.2.2
  have hn := (share_ok hm h0).T_nodup
  have := nodup_length _ ((List.range t.length).map (T t)) hn fun x hx => by
    obtain ⟨j, hj, rfl⟩ := List.mem_map.1 hx
    rw [List.mem_range] at hj
    rcases h j hj with h' | ⟨i', hi', e, _⟩
    · simp at h'
    · exact List.mem_map.2 ⟨i', by rw [List.mem_range]; omega, e.symm⟩
  simpa using this
theorem share_share : share (share t) = share t :=
  congrArg Prod.fst (shr_congr (share_ok hm h0).1 hm _ _ _ _ [] (by have := share_pos hm h0; omega) (by omega) (by have := share_pos hm h0; omega) (by omega) (share_T hm h0))
end

/-- Trees have one root's text just if what is shared of them is one. -/
theorem share_iff {a b : List Nd} (ha : Mays a) (hb : Mays b) (h0 : 0 < a.length) (h1 : 0 < b.length) : share a = share b ↔ T a (a.length - 1) = T b (b.length - 1) := by
  constructor
  · intro e
    rw [← share_T ha h0, ← share_T hb h1, e]
  · intro e
    exact congrArg Prod.fst (shr_congr ha hb _ _ _ _ [] (by omega) (by omega) (by omega) (by omega) e)

theorem kidsOf_snoc (g : Nat → List Nd → List Nd × Nat) (k : Int) : ∀ (ks : List Int) (out : List Nd), kidsOf g (ks ++ [k]) out = ((g k.toNat (kidsOf g ks out).1).1, (kidsOf g ks out).2 ++ [((g k.toNat (kidsOf g ks out).1).2 : Int)]) := by
  intro ks
  induction ks with
  | nil => intro out; rfl
  | cons a ks ih => intro out; simp only [List.cons_append, kidsOf, ih]

theorem len_bound {t out o : List Nd} (ho : Ok o) (B : Nat) (h : ∀ j, j < o.length → j < out.length ∨ ∃ i', i' < B ∧ T o j = T t i') : o.length ≤ out.length + B := by
  have := nodup_length _ ((List.range out.length).map (T o) ++ (List.range B).map (T t)) ho.T_nodup fun x hx => by
    obtain ⟨j, hj, rfl⟩ := List.mem_map.1 hx
    rw [List.mem_range] at hj
    rw [List.mem_append]
    rcases h j hj with h' | ⟨i', hi', e⟩
    · exact .inl (List.mem_map.2 ⟨j, by rw [List.mem_range]; exact h', rfl⟩)
    · exact .inr (List.mem_map.2 ⟨i', by rw [List.mem_range]; exact hi', e.symm⟩)
  simpa using this

theorem shr_len {t : List Nd} (hm : Mays t) (m i : Nat) (out : List Nd) (hi : i < m) (hl : i < t.length) (ho : Ok out) : (shr t m i out).1.length ≤ out.length + (i + 1) := by
  obtain ⟨h1, _, _, _, h5⟩ := shr_spec hm m i out hi hl ho
  refine len_bound (t := t) h1 (i + 1) fun j hj => ?_
  rcases h5 j hj with h' | ⟨i', hi', e, _⟩
  · exact .inl h'
  · exact .inr ⟨i', by omega, e⟩

/-- What the first kids of a node leave. -/
theorem kids_take {t : List Nd} (hm : Mays t) (m i : Nat) (out : List Nd) (hi : i ≤ m) (hl : i < t.length) (ho : Ok out) (j : Nat) :
    Ok (kidsOf (shr t m) ((nd t i).2.2.take j) out).1 ∧ out <+: (kidsOf (shr t m) ((nd t i).2.2.take j) out).1 ∧ (kidsOf (shr t m) ((nd t i).2.2.take j) out).2.length = ((nd t i).2.2.take j).length ∧
    (∀ k ∈ (kidsOf (shr t m) ((nd t i).2.2.take j) out).2, 0 ≤ k ∧ k < ((kidsOf (shr t m) ((nd t i).2.2.take j) out).1.length : Int)) ∧
    (kidsOf (shr t m) ((nd t i).2.2.take j) out).1.length ≤ out.length + i := by
  have hk := (hm i hl).2
  obtain ⟨b1, b2, b3, b4, _, b6⟩ := kidsOf_spec (t := t) (g := shr t m) ((nd t i).2.2.take j) out ho fun k hk' o ho' => by
    have := hk k (List.mem_of_mem_take hk')
    exact shr_spec hm m k.toNat o (by omega) (by omega) ho'
  refine ⟨b1, b2, b3, b4, len_bound (t := t) b1 i fun q hq => ?_⟩
  rcases b6 q hq with h' | ⟨k, hk', i', hi', e, _⟩
  · exact .inl h'
  · have := hk k (List.mem_of_mem_take hk')
    exact .inr ⟨i', by omega, e⟩

/-! ### Plant -/
def kidsT : List (List Nd) → List Nd → List Nd × List Int
  | [], out => (out, [])
  | t :: ts, out => ((kidsT ts (shr t t.length (t.length - 1) out).1).1, ((shr t t.length (t.length - 1) out).2 : Int) :: (kidsT ts (shr t t.length (t.length - 1) out).1).2)
def plant (k p : Int) (ts : List (List Nd)) : List Nd := (put (kidsT ts []).1 (k, p, (kidsT ts []).2)).1

def shift (from_ : Nat) (n : Nd) : Nd := (n.1, n.2.1, n.2.2.map (· + (from_ : Int)))
def flatAcc : List (List Nd) → List Nd → List Int → List Nd × List Int
  | [], all, roots => (all, roots)
  | t :: ts, all, roots => flatAcc ts (all ++ t.map (shift all.length)) (roots ++ [((all.length + t.length : Nat) : Int) - 1])
def rootT (t : List Nd) : Txt := T t (t.length - 1)
def allOf (k p : Int) (ts : List (List Nd)) : List Nd := (flatAcc ts [] []).1 ++ [(k, p, (flatAcc ts [] []).2)]

theorem nd_shift (all t : List Nd) (i : Nat) (hi : i < t.length) : nd (all ++ t.map (shift all.length)) (all.length + i) = shift all.length (nd t i) := by
  unfold nd
  rw [List.getD_eq_getElem?_getD, List.getD_eq_getElem?_getD, List.getElem?_append_right (by omega), Nat.add_sub_cancel_left, List.getElem?_map, List.getElem?_eq_getElem hi]
  rfl

theorem Mays.shift {all t : List Nd} (ha : Mays all) (ht : Mays t) : Mays (all ++ t.map (TM.shift all.length)) := by
  intro i hi
  by_cases e : i < all.length
  · rw [nd_append_left _ _ _ e]; exact ha i e
  · obtain ⟨j, rfl⟩ : ∃ j, i = all.length + j := ⟨i - all.length, by omega⟩
    have hj : j < t.length := by simp at hi; omega
    rw [nd_shift all t j hj]
    have h := ht j hj
    refine ⟨by simpa [TM.shift] using h.1, ?_⟩
    intro k hk
    simp only [TM.shift, List.mem_map] at hk
    obtain ⟨a, ha', rfl⟩ := hk
    have := h.2 a ha'
    omega

theorem T_shift {all t : List Nd} (ha : Mays all) (ht : Mays t) : ∀ i, i < t.length → T (all ++ t.map (shift all.length)) (all.length + i) = T t i := by
  intro i
  induction i using Nat.strongRecOn with
  | ind i ih =>
    intro hi
    rw [T_eq (ha.shift ht) (by simp; omega), T_eq ht hi, nd_shift all t i hi]
    simp only [shift, List.map_map]
    congr 1
    refine List.map_congr_left fun k hk => ?_
    have h := (ht i hi).2 k hk
    have e : (k + (all.length : Int)).toNat = all.length + k.toNat := by omega
    simp only [Function.comp, e]
    exact ih k.toNat (by omega) (by omega)

theorem flat_spec : ∀ (ts done : List (List Nd)) (all : List Nd) (roots : List Int), (∀ t ∈ ts, Mays t ∧ 0 < t.length) → Mays all → (∀ k ∈ roots, 0 ≤ k ∧ k < (all.length : Int)) → roots.map (fun k => T all k.toNat) = done.map rootT →
    Mays (flatAcc ts all roots).1 ∧ (∀ k ∈ (flatAcc ts all roots).2, 0 ≤ k ∧ k < ((flatAcc ts all roots).1.length : Int)) ∧ (flatAcc ts all roots).2.map (fun k => T (flatAcc ts all roots).1 k.toNat) = (done ++ ts).map rootT ∧
    (flatAcc ts all roots).1.length = all.length + (ts.map List.length).sum := by
  intro ts
  induction ts with
  | nil => intro done all roots _ ha hr hT; exact ⟨ha, hr, by simpa [flatAcc] using hT, by simp [flatAcc]⟩
  | cons t ts ih =>
    intro done all roots ht ha hr hT
    obtain ⟨htm, ht0⟩ := ht t (by simp)
    have h := ih (done ++ [t]) (all ++ t.map (shift all.length)) (roots ++ [((all.length + t.length : Nat) : Int) - 1]) (fun x hx => ht x (by simp [hx])) (ha.shift htm) (by
      intro k hk
      simp only [List.mem_append, List.mem_singleton] at hk
      simp only [List.length_append, List.length_map]
      rcases hk with hk | rfl
      · have := hr k hk; omega
      · omega) (by
      simp only [List.map_append, List.map_cons, List.map_nil]
      congr 1
      · rw [← hT]
        refine List.map_congr_left fun k hk => ?_
        have := hr k hk
        exact T_append ha _ (by omega)
      · have e : (((all.length + t.length : Nat) : Int) - 1).toNat = all.length + (t.length - 1) := by omega
        rw [e, T_shift ha htm _ (by omega)]
        rfl)
    refine ⟨h.1, h.2.1, ?_, ?_⟩
    · rw [flatAcc, h.2.2.1]; simp
    · rw [flatAcc, h.2.2.2]; simp; omega

theorem kidsT_eq {all : List Nd} (ha : Mays all) (m : Nat) : ∀ (ts : List (List Nd)) (roots : List Int) (out : List Nd), (∀ t ∈ ts, Mays t ∧ 0 < t.length) → (∀ k ∈ roots, 0 ≤ k ∧ k < (all.length : Int) ∧ k < m) →
    roots.map (fun k => T all k.toNat) = ts.map rootT → kidsT ts out = kidsOf (shr all m) roots out := by
  intro ts
  induction ts with
  | nil =>
    intro roots out _ _ e
    cases roots with
    | nil => rfl
    | cons => simp at e
  | cons t ts ih =>
    intro roots out ht hr e
    cases roots with
    | nil => simp at e
    | cons k roots =>
      simp only [List.map_cons, List.cons.injEq] at e
      obtain ⟨htm, ht0⟩ := ht t (by simp)
      have hk := hr k (by simp)
      have e1 : shr t t.length (t.length - 1) out = shr all m k.toNat out := shr_congr htm ha _ _ _ _ out (by omega) (by omega) (by omega) (by omega) e.1.symm
      simp only [kidsT, kidsOf, e1]
      rw [ih roots _ (fun x hx => ht x (by simp [hx])) (fun x hx => hr x (by simp [hx])) e.2]

section
variable {k p : Int} {ts : List (List Nd)} (hf : fitsB k p ts.length = true) (ht : ∀ t ∈ ts, Mays t ∧ 0 < t.length)
include hf ht
theorem allOf_mays : Mays (allOf k p ts) := by
  obtain ⟨a1, a2, a3, a4⟩ := flat_spec ts [] [] [] ht (fun i h => by simp at h) (fun k hk => by cases hk) rfl
  refine a1.snoc ⟨?_, a2⟩
  have hl : (flatAcc ts [] []).2.length = ts.length := by
    have := congrArg List.length a3
    simpa using this
  simp only [hl]
  exact hf
theorem allOf_T : T (allOf k p ts) ((allOf k p ts).length - 1) = form k p (ts.map rootT) := by
  obtain ⟨a1, a2, a3, a4⟩ := flat_spec ts [] [] [] ht (fun i h => by simp at h) (fun k hk => by cases hk) rfl
  have hl : (flatAcc ts [] []).2.length = ts.length := by
    have := congrArg List.length a3
    simpa using this
  unfold allOf
  rw [List.length_append, List.length_singleton, Nat.add_sub_cancel, T_snoc a1 ⟨by simp only [hl]; exact hf, a2⟩]
  simp only
  rw [a3, List.nil_append]
theorem plant_eq : plant k p ts = share (allOf k p ts) := by
  obtain ⟨a1, a2, a3, a4⟩ := flat_spec ts [] [] [] ht (fun i h => by simp at h) (fun k hk => by cases hk) rfl
  have hm := allOf_mays hf ht
  have hlen : (allOf k p ts).length = (flatAcc ts [] []).1.length + 1 := by simp [allOf]
  have e0 : kidsT ts [] = kidsOf (shr (allOf k p ts) (flatAcc ts [] []).1.length) (flatAcc ts [] []).2 [] := by
    refine kidsT_eq hm _ ts _ [] ht (fun k' hk' => ?_) ?_
    · have := a2 k' hk'
      rw [hlen]
      omega
    · rw [← List.nil_append ts] at a3 ⊢
      simp only [List.nil_append] at a3 ⊢
      rw [← a3]
      refine List.map_congr_left fun k' hk' => ?_
      have := a2 k' hk'
      exact T_append a1 _ (by omega)
  unfold plant share
  rw [hlen, Nat.add_sub_cancel]
  simp only [shr]
  have e1 : nd (allOf k p ts) (flatAcc ts [] []).1.length = (k, p, (flatAcc ts [] []).2) := nd_append_at _ _
  rw [e1, e0]
omit hf ht in
theorem allOf_pos : 0 < (allOf k p ts).length := by simp [allOf]
omit hf in
theorem allOf_length : (allOf k p ts).length = (ts.map List.length).sum + 1 := by
  obtain ⟨a1, a2, a3, a4⟩ := flat_spec ts [] [] [] ht (fun i h => by simp at h) (fun k hk => by cases hk) rfl
  simp [allOf, a4]
theorem plant_ok : Ok (plant k p ts) := by rw [plant_eq hf ht]; exact share_ok (allOf_mays hf ht) allOf_pos
theorem plant_pos : 0 < (plant k p ts).length := by rw [plant_eq hf ht]; exact share_pos (allOf_mays hf ht) allOf_pos
theorem plant_le : (plant k p ts).length ≤ (ts.map List.length).sum + 1 := by rw [plant_eq hf ht, ← allOf_length ht]; exact share_le (allOf_mays hf ht) allOf_pos
theorem plant_T : rootT (plant k p ts) = form k p (ts.map rootT) := by
  unfold rootT
  rw [plant_eq hf ht, share_T (allOf_mays hf ht) allOf_pos, allOf_T hf ht]
  rfl
/-- The root of what is planted. -/
theorem plant_root : (nd (plant k p ts) ((plant k p ts).length - 1)).1 = k ∧ (nd (plant k p ts) ((plant k p ts).length - 1)).2.1 = p ∧
    (nd (plant k p ts) ((plant k p ts).length - 1)).2.2.map (fun k' => T (plant k p ts) k'.toNat) = ts.map rootT := by
  have ho := plant_ok hf ht
  have hp := plant_pos hf ht
  have e := plant_T hf ht
  unfold rootT at e
  rw [T_eq ho.1 (by omega)] at e
  have b := fits_bd (ho.1 ((plant k p ts).length - 1) (by omega)).1
  have b' := fits_bd hf
  have hts : ∀ s ∈ ts.map rootT, IsText ((ts.map List.length).sum + 1) s := by
    intro s hs
    obtain ⟨t, ht', rfl⟩ := List.mem_map.1 hs
    obtain ⟨hm, h0⟩ := ht t ht'
    refine (T_isText hm (t.length - 1) (by omega)).mono ?_
    have : t.length ≤ (ts.map List.length).sum := by
      clear e b b' hs hf ho hp ht
      induction ts with
      | nil => cases ht'
      | cons a l ih =>
        simp only [List.map_cons, List.sum_cons]
        rcases List.mem_cons.1 ht' with rfl | h
        · omega
        · have := ih h; omega
    omega
  exact form_inj b.1 b'.1 b.2.1 b'.2.1 (T_kids ho.1 (by omega)) hts e
end

/-- What is planted of trees of the same texts is one. -/
theorem plant_congr {k p : Int} {ts ts' : List (List Nd)} (hf : fitsB k p ts.length = true) (ht : ∀ t ∈ ts, Mays t ∧ 0 < t.length) (ht' : ∀ t ∈ ts', Mays t ∧ 0 < t.length) (e : ts.map rootT = ts'.map rootT) : plant k p ts = plant k p ts' := by
  have hl : ts.length = ts'.length := by simpa using congrArg List.length e
  have hf' : fitsB k p ts'.length = true := hl ▸ hf
  rw [plant_eq hf ht, plant_eq hf' ht', share_iff (allOf_mays hf ht) (allOf_mays hf' ht') allOf_pos allOf_pos, allOf_T hf ht, allOf_T hf' ht', e]

/-! ### How many nodes, and how deep -/
def top : Int := 9223372036854775807
def sizeF (_ _ : Int) (ks : List Int) : Int := min top (1 + ks.sum)
def maxL (ks : List Int) : Int := ks.foldr max 0
def depthF (_ _ : Int) (ks : List Int) : Int := 1 + maxL ks
def size (t : List Nd) : Int := up sizeF 0 t (t.length - 1)
def depth (t : List Nd) : Int := up depthF 0 t (t.length - 1)

theorem size_pos {t : List Nd} (hm : Mays t) : ∀ i, i < t.length → 1 ≤ up sizeF 0 t i ∧ up sizeF 0 t i ≤ top := by
  intro i
  induction i using Nat.strongRecOn with
  | ind i ih =>
    intro hi
    rw [up_eq i (hm i hi).2]
    have : ∀ ks : List Int, (∀ k ∈ ks, 0 ≤ k) → 0 ≤ ks.sum := by
      intro ks
      induction ks with
      | nil => intro _; simp
      | cons a l ih' => intro h; have h1 := h a (by simp); have h2 := ih' fun x hx => h x (by simp [hx]); simp; omega
    have h := this ((nd t i).2.2.map fun k => up sizeF 0 t k.toNat) (by
      intro x hx
      obtain ⟨k, hk, rfl⟩ := List.mem_map.1 hx
      have hb := (hm i hi).2 k hk
      have := ih k.toNat (by omega) (by omega)
      omega)
    generalize ((nd t i).2.2.map fun k => up sizeF 0 t k.toNat) = l at h ⊢
    unfold sizeF top
    omega

theorem maxL_bd : ∀ (l : List Int) (b : Int), (∀ x ∈ l, x ≤ b) → 0 ≤ b → 0 ≤ maxL l ∧ maxL l ≤ b := by
  intro l
  induction l with
  | nil => intro b _ h; exact ⟨Int.le_refl 0, h⟩
  | cons a l ih =>
    intro b h h0
    have h1 := h a (by simp)
    have h2 := ih b (fun x hx => h x (by simp [hx])) h0
    unfold maxL at h2 ⊢
    simp only [List.foldr_cons]
    omega

theorem depth_bd {t : List Nd} (hm : Mays t) : ∀ i, i < t.length → 1 ≤ up depthF 0 t i ∧ up depthF 0 t i ≤ (i : Int) + 1 := by
  intro i
  induction i using Nat.strongRecOn with
  | ind i ih =>
    intro hi
    rw [up_eq i (hm i hi).2]
    have h := maxL_bd ((nd t i).2.2.map fun k => up depthF 0 t k.toNat) i (by
      intro x hx
      obtain ⟨k, hk, rfl⟩ := List.mem_map.1 hx
      have hb := (hm i hi).2 k hk
      have := ih k.toNat (by omega) (by omega)
      omega) (by omega)
    generalize ((nd t i).2.2.map fun k => up depthF 0 t k.toNat) = l at h ⊢
    unfold depthF
    omega
end Go.Proofs.YtlgnogpjmdhflaaDoor.TM
