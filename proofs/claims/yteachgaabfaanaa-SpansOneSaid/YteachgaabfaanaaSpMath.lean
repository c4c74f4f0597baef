/- Spans: plain facts on lists of spans: what they have, how many, and which list is made of what. -/
namespace Go.Proofs.Yteachgaabfaanaa.SM
abbrev Sp := Int × Int
def M : Int := 1048576

/-- A list is right: each span begins more than one behind the last one's end; all within bounds. -/
def Chain (lo : Int) : List Sp → Prop
  | [] => True
  | s :: l => lo < s.1 ∧ s.1 ≤ s.2 ∧ s.2 ≤ M ∧ Chain (s.2 + 1) l
def Right (l : List Sp) : Prop := Chain (-M - 1) l
def inB (l : List Sp) (v : Int) : Bool := l.any fun s => decide (s.1 ≤ v) && decide (v ≤ s.2)
def size (l : List Sp) : Int := (l.map fun s => s.2 - s.1 + 1).sum

theorem inB_cons (s : Sp) (l : List Sp) (v : Int) : inB (s :: l) v = ((decide (s.1 ≤ v) && decide (v ≤ s.2)) || inB l v) := by simp [inB]
theorem inB_append (a b : List Sp) (v : Int) : inB (a ++ b) v = (inB a v || inB b v) := by simp [inB]
theorem chain_gt : ∀ {l : List Sp} {lo v : Int}, Chain lo l → inB l v = true → lo < v ∧ v ≤ M := by
  intro l
  induction l with
  | nil => intro lo v _ h; simp [inB] at h
  | cons s l ih =>
    intro lo v h hv
    obtain ⟨h1, h2, h3, h4⟩ := h
    rw [inB_cons] at hv
    simp only [Bool.or_eq_true, Bool.and_eq_true, decide_eq_true_eq] at hv
    rcases hv with hv | hv
    · omega
    · have := ih h4 hv; omega
theorem chain_mono : ∀ {l : List Sp} {lo lo' : Int}, lo' ≤ lo → Chain lo l → Chain lo' l := by
  intro l
  cases l with
  | nil => intro _ _ _ _; trivial
  | cons s l =>
    intro lo lo' h hc
    obtain ⟨h1, h2, h3, h4⟩ := hc
    exact ⟨by omega, h2, h3, h4⟩
/-- The last span of a list, if there is one, ends below hi. -/
def EndsBelow (l : List Sp) (hi : Int) : Prop := ∀ s, l.getLast? = some s → s.2 < hi
theorem chain_snoc : ∀ {l : List Sp} {lo : Int} {s : Sp}, Chain lo l → (∀ p, l.getLast? = some p → p.2 + 1 < s.1) → lo < s.1 → s.1 ≤ s.2 → s.2 ≤ M → Chain lo (l ++ [s]) := by
  intro l
  induction l with
  | nil => intro lo s _ _ h1 h2 h3; exact ⟨h1, h2, h3, trivial⟩
  | cons a l ih =>
    intro lo s h hl h1 h2 h3
    obtain ⟨c1, c2, c3, c4⟩ := h
    refine ⟨c1, c2, c3, ?_⟩
    cases l with
    | nil => exact ⟨hl a rfl, h2, h3, trivial⟩
    | cons b l =>
      have hb : a.2 + 1 < s.1 := by
        obtain ⟨p, hp⟩ : ∃ p, (b :: l).getLast? = some p := ⟨(b :: l).getLast (by simp), List.getLast?_eq_some_getLast (by simp)⟩
        have h4 := hl p (by simpa using hp)
        have h5 : inB (b :: l) p.2 = true := by
          have hm : p ∈ b :: l := List.mem_of_getLast? hp
          have hpp : p.1 ≤ p.2 := by
            clear h4 hp ih hl
            have : ∀ (l : List Sp) (lo : Int), Chain lo l → ∀ p ∈ l, p.1 ≤ p.2 := by
              intro l
              induction l with
              | nil => intro _ _ p hp; cases hp
              | cons x l ih =>
                intro lo h p hp
                rcases List.mem_cons.1 hp with rfl | hp
                · exact h.2.1
                · exact ih _ h.2.2.2 p hp
            exact this _ _ c4 p hm
          unfold inB
          rw [List.any_eq_true]
          exact ⟨p, hm, by simp [hpp]⟩
        have := chain_gt c4 h5
        omega
      exact ih c4 (fun p hp => hl p (by simpa using hp)) hb h2 h3
theorem chain_mem : ∀ {l : List Sp} {lo : Int}, Chain lo l → ∀ p ∈ l, lo < p.1 ∧ p.1 ≤ p.2 ∧ p.2 ≤ M := by
  intro l
  induction l with
  | nil => intro _ _ p hp; cases hp
  | cons x l ih =>
    intro lo h p hp
    obtain ⟨c1, c2, c3, c4⟩ := h
    rcases List.mem_cons.1 hp with rfl | hp
    · exact ⟨c1, c2, c3⟩
    · have := ih c4 p hp; omega

/-! ### A right list is told by what it has -/
theorem chain_unique : ∀ {a b : List Sp} {lo : Int}, Chain lo a → Chain lo b → (∀ v, inB a v = inB b v) → a = b := by
  intro a
  induction a with
  | nil =>
    intro b lo _ hb h
    cases b with
    | nil => rfl
    | cons s b =>
      have := h s.1
      rw [inB_cons] at this
      simp [inB, hb.2.1] at this
  | cons s a ih =>
    intro b lo ha hb h
    cases b with
    | nil =>
      have := h s.1
      rw [inB_cons] at this
      simp [inB, ha.2.1] at this
    | cons t b =>
      obtain ⟨a1, a2, a3, a4⟩ := ha
      obtain ⟨b1, b2, b3, b4⟩ := hb
      have key : ∀ v, ((s.1 ≤ v ∧ v ≤ s.2) ∨ inB a v = true) ↔ ((t.1 ≤ v ∧ v ≤ t.2) ∨ inB b v = true) := by
        intro v
        have := h v
        rw [inB_cons, inB_cons] at this
        rw [Bool.eq_iff_iff] at this
        simpa using this
      have ga : ∀ v, inB a v = true → s.2 + 1 < v := fun v hv => (chain_gt a4 hv).1
      have gb : ∀ v, inB b v = true → t.2 + 1 < v := fun v hv => (chain_gt b4 hv).1
      have e1 : s.1 = t.1 := by
        have h1 := (key s.1).1 (.inl ⟨Int.le_refl _, a2⟩)
        have h2 := (key t.1).2 (.inl ⟨Int.le_refl _, b2⟩)
        rcases h1 with h1 | h1 <;> rcases h2 with h2 | h2
        · omega
        · have := ga _ h2; omega
        · have := gb _ h1; omega
        · have := ga _ h2; have := gb _ h1; omega
      have e2 : s.2 = t.2 := by
        have h1 := (key (t.2 + 1)).1
        have h2 := (key (s.2 + 1)).2
        have h3 := (key s.2).1 (.inl ⟨a2, Int.le_refl _⟩)
        have h4 := (key t.2).2 (.inl ⟨b2, Int.le_refl _⟩)
        rcases Int.lt_trichotomy s.2 t.2 with hlt | heq | hgt
        · have h5 := (key (s.2 + 1)).2 (.inl ⟨by omega, by omega⟩)
          rcases h5 with h5 | h5
          · omega
          · have := ga _ h5; omega
        · exact heq
        · have h5 := (key (t.2 + 1)).1 (.inl ⟨by omega, by omega⟩)
          rcases h5 with h5 | h5
          · omega
          · have := gb _ h5; omega
      have e : s = t := Prod.ext e1 e2
      subst e
      rw [ih a4 b4 fun v => ?_]
      have := h v
      rw [inB_cons, inB_cons] at this
      by_cases hv : s.1 ≤ v ∧ v ≤ s.2
      · have x1 : inB a v = false := by
          cases hx : inB a v with
          | false => rfl
          | true => have := ga v hx; omega
        have x2 : inB b v = false := by
          cases hx : inB b v with
          | false => rfl
          | true => have := gb v hx; omega
        rw [x1, x2]
      · have hd : (decide (s.1 ≤ v) && decide (v ≤ s.2)) = false := by
          rw [Bool.eq_false_iff]
          intro hh
          simp at hh
          exact hv hh
        rw [hd, Bool.false_or, Bool.false_or] at this
        exact this
theorem right_unique {a b : List Sp} (ha : Right a) (hb : Right b) (h : ∀ v, inB a v = inB b v) : a = b := chain_unique ha hb h

/-! ### put -/
def putM (l : List Sp) (s : Sp) : List Sp := match l.getLast? with
  | none => l ++ [s]
  | some p => if s.1 ≤ p.2 + 1 then l.dropLast ++ [(p.1, max p.2 s.2)] else l ++ [s]
theorem snoc_of {l : List Sp} {p : Sp} (h : l.getLast? = some p) : l = l.dropLast ++ [p] := by
  have hne : l ≠ [] := by rintro rfl; simp at h
  have := List.dropLast_concat_getLast hne
  rw [List.getLast?_eq_some_getLast hne] at h
  injection h with h
  rw [← h]; exact this.symm
theorem chain_dropLast : ∀ {l : List Sp} {lo : Int} {p : Sp}, Chain lo (l ++ [p]) → Chain lo l ∧ lo < p.1 ∧ p.1 ≤ p.2 ∧ p.2 ≤ M ∧ ∀ x, l.getLast? = some x → x.2 + 1 < p.1 := by
  intro l
  induction l with
  | nil => intro lo p h; exact ⟨trivial, h.1, h.2.1, h.2.2.1, fun x hx => by simp at hx⟩
  | cons a l ih =>
    intro lo p h
    obtain ⟨c1, c2, c3, c4⟩ := h
    obtain ⟨d1, d2, d3, d4, d5⟩ := ih c4
    refine ⟨⟨c1, c2, c3, d1⟩, by omega, d3, d4, fun x hx => ?_⟩
    cases l with
    | nil => simp at hx; subst hx; exact d2
    | cons b l => exact d5 x (by simpa using hx)
/-- put keeps a list right, and puts the span's numbers in; the span may begin where the last one began, or behind. -/
theorem putM_spec {l : List Sp} {lo : Int} {s : Sp} (h : Chain lo l) (h1 : lo < s.1) (h2 : s.1 ≤ s.2) (h3 : s.2 ≤ M) (hl : ∀ p, l.getLast? = some p → p.1 ≤ s.1 ∧ p.2 ≤ s.2) :
    Chain lo (putM l s) ∧ (∀ v, inB (putM l s) v = (inB l v || (decide (s.1 ≤ v) && decide (v ≤ s.2)))) ∧ (∃ p, (putM l s).getLast? = some p ∧ p.1 ≤ s.1 ∧ p.2 = s.2) := by
  unfold putM
  cases hg : l.getLast? with
  | none =>
    refine ⟨chain_snoc h (fun p hp => by rw [hg] at hp; cases hp) h1 h2 h3, fun v => by rw [inB_append]; simp [inB], ⟨s, by simp, Int.le_refl _, rfl⟩⟩
  | some p =>
    have hs := snoc_of hg
    obtain ⟨q1, q2⟩ := hl p hg
    by_cases hc : s.1 ≤ p.2 + 1
    · simp only [if_pos hc]
      rw [hs] at h
      obtain ⟨d1, d2, d3, d4, d5⟩ := chain_dropLast h
      have hmx : max p.2 s.2 = s.2 := by omega
      rw [hmx]
      refine ⟨chain_snoc d1 d5 d2 (by simp only; omega) h3, fun v => ?_, ⟨(p.1, s.2), by simp, q1, rfl⟩⟩
      conv => rhs; rw [hs]
      rw [inB_append, inB_append, Bool.or_assoc]
      congr 1
      rw [Bool.eq_iff_iff]
      simp [inB]
      omega
    · simp only [if_neg hc]
      refine ⟨chain_snoc h (fun x hx => by rw [hg] at hx; injection hx with hx; subst hx; omega) h1 h2 h3, fun v => by rw [inB_append]; simp [inB], ⟨s, by simp, Int.le_refl _, rfl⟩⟩

/-! ### The list of numbers that rise -/
def ofM (vs : List Int) : List Sp := vs.foldl (fun l v => putM l (v, v)) []
theorem ofM_spec (vs : List Int) (hb : ∀ v ∈ vs, -M ≤ v ∧ v ≤ M) (hs : vs.Pairwise (· ≤ ·)) : Right (ofM vs) ∧ ∀ v, inB (ofM vs) v = decide (v ∈ vs) := by
  have key : ∀ (rest done : List Int) (acc : List Sp), (∀ v ∈ done ++ rest, -M ≤ v ∧ v ≤ M) → (done ++ rest).Pairwise (· ≤ ·) → Right acc → (∀ v, inB acc v = decide (v ∈ done)) → (∀ p, acc.getLast? = some p → ∃ x, done.getLast? = some x ∧ p.1 ≤ x ∧ p.2 = x) →
      Right (rest.foldl (fun l v => putM l (v, v)) acc) ∧ ∀ v, inB (rest.foldl (fun l v => putM l (v, v)) acc) v = decide (v ∈ done ++ rest) := by
    intro rest
    induction rest with
    | nil => intro done acc _ _ h1 h2 _; exact ⟨h1, by simpa using h2⟩
    | cons x rest ih =>
      intro done acc hbd hp h1 h2 h3
      have hx := hbd x (by simp)
      have hge : ∀ y ∈ done, y ≤ x := by
        intro y hy
        rw [List.pairwise_append] at hp
        exact hp.2.2 y hy x (by simp)
      obtain ⟨a1, a2, p, a3, a4, a5⟩ := putM_spec (s := (x, x)) h1 (by simp only; omega) (Int.le_refl _) hx.2 (fun p hp' => by
        obtain ⟨y, hy, hp1, hp2⟩ := h3 p hp'
        have := hge y (List.mem_of_getLast? hy)
        simp only
        omega)
      have := ih (done ++ [x]) (putM acc (x, x)) (by simpa using hbd) (by simpa using hp) a1 (fun v => by
        rw [a2, h2]
        rw [Bool.eq_iff_iff]
        simp
        constructor
        · rintro (h | ⟨h, h'⟩)
          · exact .inl h
          · exact .inr (by omega)
        · rintro (h | h)
          · exact .inl h
          · exact .inr (by omega)) (fun q hq => by
        rw [a3] at hq
        injection hq with hq
        subst hq
        exact ⟨x, by simp, a4, a5⟩)
      simpa using this
  have := key vs [] [] (by simpa using hb) (by simpa using hs) trivial (fun v => by simp [inB]) (fun p hp => by simp at hp)
  simpa [ofM] using this

/-! ### The numbers that are kept -/
def buildM (f : Int → Bool) : List Int → List Sp → List Sp
  | x :: y :: r, acc => buildM f (y :: r) (if f x then putM acc (x, y - 1) else acc)
  | _, acc => acc
theorem build_spec (f : Int → Bool) : ∀ (es : List Int) (acc : List Sp) (lo x : Int), Chain lo acc → lo < x → (x :: es).Pairwise (· < ·) → (∀ e ∈ es, e ≤ M + 1) → (∀ p, acc.getLast? = some p → p.2 < x) → (∀ v, x ≤ v → inB acc v = false) →
    (∀ u w, (u, w) ∈ (x :: es).zip es → ∀ v, u ≤ v → v < w → f v = f u) →
    Chain lo (buildM f (x :: es) acc) ∧ ∀ v, inB (buildM f (x :: es) acc) v = (inB acc v || (decide (x ≤ v) && decide (v < (x :: es).getLast (by simp)) && f v)) := by
  intro es
  induction es with
  | nil =>
    intro acc lo x hc _ _ _ _ _ _
    refine ⟨hc, fun v => ?_⟩
    have hz : ∀ c : Bool, (decide (x ≤ v) && decide (v < x) && c) = false := fun c => by
      rw [Bool.eq_false_iff]; intro h; simp at h; omega
    show inB acc v = (inB acc v || (decide (x ≤ v) && decide (v < x) && f v))
    rw [hz, Bool.or_false]
  | cons y es ih =>
    intro acc lo x hc hlo hp hM hl hno hf
    have hxy : x < y := by
      rw [List.pairwise_cons] at hp
      exact hp.1 y (by simp)
    have hyM := hM y (by simp)
    have hlast : y ≤ (y :: es).getLast (by simp) := by
      rw [List.pairwise_cons] at hp
      have h2 := hp.2
      cases es with
      | nil => simp
      | cons z es =>
        rw [List.pairwise_cons] at h2
        have := h2.1 ((y :: z :: es).getLast (by simp)) (by
          rw [List.getLast_cons (by simp)]
          exact List.getLast_mem _)
        omega
    have hgl : (x :: y :: es).getLast (by simp) = (y :: es).getLast (by simp) := List.getLast_cons (by simp)
    have hfx : ∀ v, x ≤ v → v < y → f v = f x := hf x y (by simp)
    have hf' : ∀ u w, (u, w) ∈ (y :: es).zip es → ∀ v, u ≤ v → v < w → f v = f u := fun u w huw => hf u w (by
      simp only [List.zip_cons_cons, List.mem_cons]
      exact .inr huw)
    have hp' : (y :: es).Pairwise (· < ·) := by rw [List.pairwise_cons] at hp; exact hp.2
    have hM' : ∀ e ∈ es, e ≤ M + 1 := fun e he => hM e (List.mem_cons_of_mem _ he)
    simp only [buildM]
    cases hfv : f x with
    | false =>
      obtain ⟨b1, b2⟩ := ih acc lo y hc (by omega) hp' hM' (fun p hp2 => by have := hl p hp2; omega) (fun v hv => hno v (by omega)) hf'
      simp only [Bool.false_eq_true, if_false]
      refine ⟨b1, fun v => ?_⟩
      rw [b2, hgl]
      congr 1
      by_cases hv : x ≤ v ∧ v < y
      · have := hfx v hv.1 hv.2
        rw [this, hfv]
        simp
      · by_cases hv2 : x ≤ v
        · have e1 : decide (x ≤ v) = true := decide_eq_true hv2
          have e2 : decide (y ≤ v) = true := decide_eq_true (by omega)
          rw [e1, e2]
        · have e1 : decide (x ≤ v) = false := decide_eq_false hv2
          have e2 : decide (y ≤ v) = false := decide_eq_false (by omega)
          rw [e1, e2]
    | true =>
      obtain ⟨c1, c2, p, c3, c4, c5⟩ := putM_spec (s := (x, y - 1)) hc (by simp only; omega) (by simp only; omega) (by simp only; omega) (fun p hp2 => by
        have h1 := hl p hp2
        have hs := snoc_of hp2
        have hcc := hc
        rw [hs] at hcc
        obtain ⟨_, _, d3, _, _⟩ := chain_dropLast hcc
        simp only
        omega)
      obtain ⟨b1, b2⟩ := ih (putM acc (x, y - 1)) lo y c1 (by omega) hp' hM' (fun q hq => by
        rw [c3] at hq
        injection hq with hq
        subst hq
        rw [c5]; simp only; omega) (fun v hv => by
        rw [c2, hno v (by omega)]
        simp
        omega) hf'
      simp only [if_true]
      refine ⟨b1, fun v => ?_⟩
      rw [b2, c2, hgl]
      rw [Bool.or_assoc]
      congr 1
      by_cases hv : x ≤ v ∧ v < y
      · have h1 := hfx v hv.1 hv.2
        have e1 : decide (x ≤ v) = true := decide_eq_true hv.1
        have e2 : decide (v ≤ y - 1) = true := decide_eq_true (by omega)
        have e3 : decide (v < (y :: es).getLast (by simp)) = true := decide_eq_true (by omega)
        have e4 : decide (y ≤ v) = false := decide_eq_false (by omega)
        simp only [e1, e2, e3, e4, h1, hfv, Bool.and_self, Bool.true_or]
      · by_cases hv2 : x ≤ v
        · have e1 : decide (x ≤ v) = true := decide_eq_true hv2
          have e2 : decide (v ≤ y - 1) = false := decide_eq_false (by omega)
          have e4 : decide (y ≤ v) = true := decide_eq_true (by omega)
          simp only [e1, e2, e4, Bool.true_and, Bool.false_or]
        · have e1 : decide (x ≤ v) = false := decide_eq_false hv2
          have e4 : decide (y ≤ v) = false := decide_eq_false (by omega)
          simp only [e1, e4, Bool.false_and, Bool.false_or]

/-- Where something begins: of all spans of two lists. -/
def endsOf (a : List Sp) : List Int := a.flatMap fun s => [s.1, s.2 + 1]
theorem mem_ends {a : List Sp} {e : Int} : e ∈ endsOf a ↔ ∃ s ∈ a, e = s.1 ∨ e = s.2 + 1 := by
  simp [endsOf, List.mem_flatMap]
/-- Between two ends that stand side by side nothing turns. -/
theorem in_const {a : List Sp} {x y v : Int} (hno : ∀ e ∈ endsOf a, ¬ (x < e ∧ e < y)) (h1 : x ≤ v) (h2 : v < y) : inB a v = inB a x := by
  induction a with
  | nil => rfl
  | cons s a ih =>
    rw [inB_cons, inB_cons, ih fun e he => hno e (by
      rw [mem_ends] at he ⊢
      obtain ⟨t, ht, h⟩ := he
      exact ⟨t, List.mem_cons_of_mem _ ht, h⟩)]
    congr 1
    have n1 := hno s.1 (mem_ends.2 ⟨s, by simp, .inl rfl⟩)
    have n2 := hno (s.2 + 1) (mem_ends.2 ⟨s, by simp, .inr rfl⟩)
    rw [Bool.eq_iff_iff]
    simp only [Bool.and_eq_true, decide_eq_true_eq]
    omega
theorem zip_between : ∀ (es : List Int) (x u w e : Int), (x :: es).Pairwise (· < ·) → (u, w) ∈ (x :: es).zip es → e ∈ x :: es → ¬ (u < e ∧ e < w) := by
  intro es
  induction es with
  | nil => intro x u w e _ h; simp at h
  | cons y es ih =>
    intro x u w e hp h he
    rw [List.pairwise_cons] at hp
    simp only [List.zip_cons_cons, List.mem_cons] at h
    rcases h with h | h
    · injection h with h1 h2
      subst h1; subst h2
      rcases List.mem_cons.1 he with rfl | he
      · omega
      · rcases List.mem_cons.1 he with rfl | he
        · omega
        · have h3 := hp.2
          rw [List.pairwise_cons] at h3
          have := h3.1 e he
          omega
    · rcases List.mem_cons.1 he with rfl | he
      · have hu : u ∈ y :: es := (List.of_mem_zip h).1
        have := hp.1 u hu
        omega
      · exact ih y u w e hp.2 h he
theorem below_last : ∀ (es : List Int) (x e : Int), (x :: es).Pairwise (· < ·) → e ∈ x :: es → x ≤ e ∧ e ≤ (x :: es).getLast (by simp) := by
  intro es
  induction es with
  | nil => intro x e _ h; simp at h; subst h; simp
  | cons y es ih =>
    intro x e hp h
    rw [List.pairwise_cons] at hp
    have hgl : (x :: y :: es).getLast (by simp) = (y :: es).getLast (by simp) := List.getLast_cons (by simp)
    rw [hgl]
    have hy := ih y y hp.2 (by simp)
    have hxy := hp.1 y (by simp)
    rcases List.mem_cons.1 h with rfl | h
    · omega
    · have := ih y e hp.2 h; omega
/-- What is kept of two right lists is right, and has the numbers that it must. -/
theorem parts_spec {a b : List Sp} (ha : Right a) (hb : Right b) (keep : Bool → Bool → Bool) (h0 : keep false false = false) (es : List Int) (hs : es.Pairwise (· < ·)) (hm : ∀ e, e ∈ es ↔ e ∈ endsOf a ∨ e ∈ endsOf b) :
    Right (buildM (fun v => keep (inB a v) (inB b v)) es []) ∧ ∀ v, inB (buildM (fun v => keep (inB a v) (inB b v)) es []) v = keep (inB a v) (inB b v) := by
  have bound : ∀ {l : List Sp}, Right l → ∀ e ∈ endsOf l, -M ≤ e ∧ e ≤ M + 1 := by
    intro l hl e he
    obtain ⟨s, hs, h⟩ := mem_ends.1 he
    have := chain_mem hl s hs
    rcases h with rfl | rfl <;> omega
  cases es with
  | nil =>
    have hna : ∀ {l : List Sp}, (∀ e ∈ endsOf l, False) → l = [] := by
      intro l h
      cases l with
      | nil => rfl
      | cons s l => exact absurd (mem_ends.2 ⟨s, by simp, .inl rfl⟩) (h s.1)
    obtain rfl : a = [] := hna fun e he => by have := (hm e).2 (.inl he); simp at this
    obtain rfl : b = [] := hna fun e he => by have := (hm e).2 (.inr he); simp at this
    refine ⟨trivial, fun v => ?_⟩
    simp [buildM, inB, h0]
  | cons x es =>
    have hxb : -M ≤ x := by
      rcases (hm x).1 (by simp) with h | h
      · exact (bound ha x h).1
      · exact (bound hb x h).1
    obtain ⟨b1, b2⟩ := build_spec (fun v => keep (inB a v) (inB b v)) es [] (-M - 1) x trivial (by omega) hs (fun e he => by
      rcases (hm e).1 (List.mem_cons_of_mem _ he) with h | h
      · exact (bound ha e h).2
      · exact (bound hb e h).2) (fun p hp => by simp at hp) (fun v _ => rfl) (fun u w huw v h1 h2 => by
      show keep (inB a v) (inB b v) = keep (inB a u) (inB b u)
      rw [in_const (a := a) (x := u) (y := w) (fun e he => zip_between es x u w e hs huw ((hm e).2 (.inl he))) h1 h2,
        in_const (a := b) (x := u) (y := w) (fun e he => zip_between es x u w e hs huw ((hm e).2 (.inr he))) h1 h2])
    refine ⟨b1, fun v => ?_⟩
    rw [b2]
    simp only [inB, List.any_nil, Bool.false_or]
    change (decide (x ≤ v) && decide (v < (x :: es).getLast _) && keep (inB a v) (inB b v)) = keep (inB a v) (inB b v)
    have out : ∀ {l : List Sp}, Right l → (∀ e ∈ endsOf l, e ∈ x :: es) → inB l v = true → x ≤ v ∧ v < (x :: es).getLast (by simp) := by
      intro l hl hsub hv
      unfold inB at hv
      rw [List.any_eq_true] at hv
      obtain ⟨s, hs', hv⟩ := hv
      simp only [Bool.and_eq_true, decide_eq_true_eq] at hv
      have e1 := below_last es x s.1 hs (hsub _ (mem_ends.2 ⟨s, hs', .inl rfl⟩))
      have e2 := below_last es x (s.2 + 1) hs (hsub _ (mem_ends.2 ⟨s, hs', .inr rfl⟩))
      omega
    by_cases hin : x ≤ v ∧ v < (x :: es).getLast (by simp)
    · rw [decide_eq_true hin.1, decide_eq_true hin.2]; simp
    · have f1 : inB a v = false := by
        cases h : inB a v with
        | false => rfl
        | true => exact absurd (out ha (fun e he => (hm e).2 (.inl he)) h) hin
      have f2 : inB b v = false := by
        cases h : inB b v with
        | false => rfl
        | true => exact absurd (out hb (fun e he => (hm e).2 (.inr he)) h) hin
      rw [f1, f2, h0]
      simp

/-! ### How many -/
def countI (f : Int → Bool) (lo : Int) : Nat → Int
  | 0 => 0
  | n + 1 => countI f lo n + if f (lo + n) then 1 else 0
theorem count_congr {f g : Int → Bool} {lo : Int} : ∀ n : Nat, (∀ v, lo ≤ v → v < lo + n → f v = g v) → countI f lo n = countI g lo n := by
  intro n
  induction n with
  | zero => intro _; rfl
  | succ n ih =>
    intro h
    simp only [countI]
    rw [ih fun v h1 h2 => h v h1 (by omega), h (lo + n) (by omega) (by omega)]
theorem count_add (f g : Int → Bool) (lo : Int) : ∀ n : Nat, countI (fun v => f v || g v) lo n + countI (fun v => f v && g v) lo n = countI f lo n + countI g lo n := by
  intro n
  induction n with
  | zero => rfl
  | succ n ih =>
    simp only [countI]
    rcases Bool.eq_false_or_eq_true (f (lo + n)) with h | h <;> rcases Bool.eq_false_or_eq_true (g (lo + n)) with h' | h' <;> simp [h, h'] <;> omega
theorem count_less (f g : Int → Bool) (lo : Int) : ∀ n : Nat, countI (fun v => f v && !g v) lo n + countI (fun v => f v && g v) lo n = countI f lo n := by
  intro n
  induction n with
  | zero => rfl
  | succ n ih =>
    simp only [countI]
    rcases Bool.eq_false_or_eq_true (f (lo + n)) with h | h <;> rcases Bool.eq_false_or_eq_true (g (lo + n)) with h' | h' <;> simp [h, h'] <;> omega
theorem count_span (p q lo : Int) : ∀ n : Nat, lo ≤ p → q < lo + n → p ≤ q + 1 → countI (fun v => decide (p ≤ v) && decide (v ≤ q)) lo n = q - p + 1 := by
  have key : ∀ n : Nat, lo ≤ p → p ≤ q + 1 → countI (fun v => decide (p ≤ v) && decide (v ≤ q)) lo n = max 0 (min (q + 1) (lo + n) - p) := by
    intro n
    induction n with
    | zero => intro h1 h2; simp only [countI]; omega
    | succ n ih =>
      intro h1 h2
      simp only [countI]
      rw [ih h1 h2]
      by_cases h : p ≤ lo + n ∧ lo + n ≤ q
      · rw [if_pos (by simp [h])]; omega
      · rw [if_neg (by simp; omega)]; omega
  intro n h1 h2 h3
  rw [key n h1 h3]
  omega
theorem count_size : ∀ (l : List Sp) (lo lo' : Int) (n : Nat), Chain lo' l → lo ≤ lo' + 1 → M < lo + n → countI (inB l) lo n = size l := by
  intro l
  induction l with
  | nil =>
    intro lo lo' n _ _ _
    have : ∀ n : Nat, countI (inB []) lo n = 0 := by
      intro n
      induction n with
      | zero => rfl
      | succ n ih => simp only [countI, ih]; simp [inB]
    rw [this]; rfl
  | cons s l ih =>
    intro lo lo' n h h1 h2
    obtain ⟨c1, c2, c3, c4⟩ := h
    have e1 := ih lo (s.2 + 1) n c4 (by omega) h2
    have e2 := count_span s.1 s.2 lo n (by omega) (by omega) (by omega)
    have e3 := count_add (fun v => decide (s.1 ≤ v) && decide (v ≤ s.2)) (inB l) lo n
    have e4 : countI (fun v => (decide (s.1 ≤ v) && decide (v ≤ s.2)) && inB l v) lo n = countI (fun _ => false) lo n := count_congr n fun v _ _ => by
      cases hx : inB l v with
      | false => simp
      | true => have := (chain_gt c4 hx).1; simp; omega
    have e5 : ∀ n : Nat, countI (fun _ => false) lo n = 0 := by
      intro n
      induction n with
      | zero => rfl
      | succ n ih => simp only [countI, ih]; simp
    have e6 : countI (inB (s :: l)) lo n = countI (fun v => (decide (s.1 ≤ v) && decide (v ≤ s.2)) || inB l v) lo n := count_congr n fun v _ _ => inB_cons s l v
    rw [e6]
    simp only [size, List.map_cons, List.sum_cons]
    unfold size at e1
    rw [e4, e5] at e3
    omega
def cnt (f : Int → Bool) : Int := countI f (-M) 2097153
theorem size_cnt {l : List Sp} (h : Right l) : size l = cnt (inB l) := (count_size l (-M) (-M - 1) 2097153 h (by omega) (by unfold M; omega)).symm
/-- How many are in either, in both, in the one alone. -/
theorem sizes {a b u m l : List Sp} (ha : Right a) (hb : Right b) (hu : Right u) (hm : Right m) (hl : Right l) (eu : ∀ v, inB u v = (inB a v || inB b v)) (em : ∀ v, inB m v = (inB a v && inB b v)) (el : ∀ v, inB l v = (inB a v && !inB b v)) :
    size u = size a + size b - size m ∧ size l = size a - size m := by
  rw [size_cnt ha, size_cnt hb, size_cnt hu, size_cnt hm, size_cnt hl]
  unfold cnt
  rw [count_congr 2097153 fun v _ _ => eu v, count_congr (f := inB m) 2097153 fun v _ _ => em v, count_congr (f := inB l) 2097153 fun v _ _ => el v]
  have h1 := count_add (inB a) (inB b) (-M) 2097153
  have h2 := count_less (inB a) (inB b) (-M) 2097153
  omega
theorem size_nonneg : ∀ {l : List Sp} {lo : Int}, Chain lo l → 0 ≤ size l := by
  intro l
  induction l with
  | nil => intro _ _; simp [size]
  | cons s l ih =>
    intro lo h
    have h1 := ih h.2.2.2
    have h2 := h.2.1
    simp only [size, List.map_cons, List.sum_cons]
    unfold size at h1
    omega
end Go.Proofs.Yteachgaabfaanaa.SM
