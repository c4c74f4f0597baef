/- put of tree's sharer: what it finds, and what it lays. -/
import Derived.Test.YtlgnogpjmdhflaaDoorTreeD
import Derived.Maps.OwnOps
import Derived.Maps.Views
namespace Go.Proofs.YtlgnogpjmdhflaaDoor
open Go.RowKit Go.Proofs.YtlgnogpjmdhflaaDoorW.PrintWords Go.Proofs.YtlgnogpjmdhflaaDoorW.PrintLast Go.Proofs.YtlgnogpjmdhflaaDoorW.PrintMore Go.Proofs.YtlgnogpjmdhflaaDoor.PRef Go.Maps
set_option linter.unusedVariables false
set_option linter.unusedSimpArgs false

/-! ### The text of a node tells it -/
theorem dec_ge (u : Nat) : ∀ c ∈ Lib.decDigits u, 48 ≤ c.toNat := by
  induction u using Nat.strongRecOn with
  | ind u ih =>
    rw [Lib.decDigits]
    split
    · intro c hc
      simp only [List.mem_singleton] at hc
      subst hc
      rw [TM.ofNat_toNat _ (by omega)]; omega
    · intro c hc
      rcases List.mem_append.1 hc with hc | hc
      · exact ih (u / 10) (by omega) c hc
      · simp only [List.mem_singleton] at hc
        subst hc
        rw [TM.ofNat_toNat _ (by omega)]; omega
def decVal (l : List UInt8) : Nat := l.foldl (fun a c => 10 * a + (c.toNat - 48)) 0
theorem decVal_dec (u : Nat) : decVal (Lib.decDigits u) = u := by
  induction u using Nat.strongRecOn with
  | ind u ih =>
    rw [Lib.decDigits]
    split
    · simp only [decVal, List.foldl_cons, List.foldl_nil]
      rw [TM.ofNat_toNat _ (by omega)]; omega
    · have := ih (u / 10) (by omega)
      unfold decVal at this ⊢
      rw [List.foldl_append, this]
      simp only [List.foldl_cons, List.foldl_nil]
      rw [TM.ofNat_toNat _ (by omega)]; omega
theorem dec_sep : ∀ (l l' r r' : List UInt8), (∀ c ∈ l, 48 ≤ c.toNat) → (∀ c ∈ l', 48 ≤ c.toNat) → (∀ c q, r = c :: q → c.toNat < 48) → (∀ c q, r' = c :: q → c.toNat < 48) → l ++ r = l' ++ r' → l = l' ∧ r = r' := by
  intro l
  induction l with
  | nil =>
    intro l' r r' _ h' hr _ e
    cases l' with
    | nil => exact ⟨rfl, by simpa using e⟩
    | cons c l' =>
      have h1 := h' c (by simp)
      have h2 := hr c (l' ++ r') (by simpa using e)
      omega
  | cons c l ih =>
    intro l' r r' h h' hr hr' e
    cases l' with
    | nil =>
      have h1 := h c (by simp)
      have h2 := hr' c (l ++ r) (by simpa using e.symm)
      omega
    | cons c' l' =>
      simp only [List.cons_append, List.cons.injEq] at e
      obtain ⟨rfl, e⟩ := e
      obtain ⟨rfl, rfl⟩ := ih l' r r' (fun x hx => h x (by simp [hx])) (fun x hx => h' x (by simp [hx])) hr hr' e
      exact ⟨rfl, rfl⟩
theorem itoa_dec (n : Int) (h : 0 ≤ n) : Lib.itoa n = Lib.decDigits n.toNat := by unfold Lib.itoa; rw [if_neg (by omega)]
theorem itoa_sep {a b : Int} (ha : 0 ≤ a) (hb : 0 ≤ b) {r r' : List UInt8} (hr : ∀ c q, r = c :: q → c.toNat < 48) (hr' : ∀ c q, r' = c :: q → c.toNat < 48) (e : Lib.itoa a ++ r = Lib.itoa b ++ r') : a = b ∧ r = r' := by
  rw [itoa_dec a ha, itoa_dec b hb] at e
  obtain ⟨h1, h2⟩ := dec_sep _ _ _ _ (dec_ge _) (dec_ge _) hr hr' e
  have := congrArg decVal h1
  rw [decVal_dec, decVal_dec] at this
  exact ⟨by omega, h2⟩
theorem kidTxt_head (ks : List Int) : ∀ c q, kidTxt ks = c :: q → c.toNat < 48 := by
  intro c q h
  cases ks with
  | nil => simp [kidTxt] at h
  | cons k ks =>
    simp only [kidTxt, List.flatMap_cons, List.cons_append, List.cons.injEq] at h
    rw [← h.1]
    decide
theorem kidTxt_inj : ∀ (ks ks' : List Int), (∀ k ∈ ks, 0 ≤ k) → (∀ k ∈ ks', 0 ≤ k) → kidTxt ks = kidTxt ks' → ks = ks' := by
  intro ks
  induction ks with
  | nil =>
    intro ks' _ _ e
    cases ks' with
    | nil => rfl
    | cons => simp [kidTxt] at e
  | cons k ks ih =>
    intro ks' h h' e
    cases ks' with
    | nil => simp [kidTxt] at e
    | cons k' ks' =>
      have e2 : Lib.itoa k ++ kidTxt ks = Lib.itoa k' ++ kidTxt ks' := by
        simpa [kidTxt] using e
      obtain ⟨rfl, e3⟩ := itoa_sep (h k (by simp)) (h' k' (by simp)) (kidTxt_head ks) (kidTxt_head ks') e2
      rw [ih ks' (fun x hx => h x (by simp [hx])) (fun x hx => h' x (by simp [hx])) e3]
theorem txt_inj {n m : S46} (hn : Plainly n) (hm : Plainly m) (e : txt n = txt m) : n = m := by
  obtain ⟨⟨a0, _⟩, ⟨a1, _⟩, _, a3⟩ := hn
  obtain ⟨⟨b0, _⟩, ⟨b1, _⟩, _, b3⟩ := hm
  unfold txt headTxt at e
  rw [List.append_assoc, List.append_assoc] at e
  obtain ⟨h0, e⟩ := itoa_sep a0 b0 (by intro c q h; simp at h; rw [← h.1]; decide) (by intro c q h; simp at h; rw [← h.1]; decide) e
  simp only [List.cons_append, List.cons.injEq, true_and] at e
  obtain ⟨h1, e⟩ := itoa_sep a1 b1 (kidTxt_head _) (kidTxt_head _) e
  have h2 := kidTxt_inj _ _ (fun k hk => (a3 k hk).1) (fun k hk => (b3 k hk).1) e
  cases n
  cases m
  simp only at h0 h1 h2
  rw [h0, h1, h2]

/-! ### What is here: each node's number, and 1, at its text -/
def keyLit (n : S46) : Lit := .string (txt n)
def hereN (out : List S46) : DataW Unit × Nat := out.foldl (fun m n => (m.1.put (keyLit n) (.lit (.int .i64 ((m.2 : Int) + 1))), m.2 + 1)) (.map [], 0)
def hereOf (out : List S46) : DataW Unit := (hereN out).1
theorem hereN_two (out : List S46) : (hereN out).2 = out.length := by
  have : ∀ (l : List S46) (m : DataW Unit × Nat), (l.foldl (fun m n => (m.1.put (keyLit n) (.lit (.int .i64 ((m.2 : Int) + 1))), m.2 + 1)) m).2 = m.2 + l.length := by
    intro l
    induction l with
    | nil => intro m; rfl
    | cons a l ih => intro m; rw [List.foldl_cons, ih]; simp; omega
  unfold hereN
  rw [this]
  simp
theorem hereOf_snoc (out : List S46) (n : S46) : hereOf (out ++ [n]) = (hereOf out).put (keyLit n) (.lit (.int .i64 ((out.length : Int) + 1))) := by
  have h2 := hereN_two out
  unfold hereOf hereN at *
  rw [List.foldl_append]
  simp only [List.foldl_cons, List.foldl_nil]
  rw [h2]
theorem key_is (n : S46) : WideAt.IsKeyLit (keyLit n) := trivial
theorem key_ne {n m : S46} (hn : Plainly n) (hm : Plainly m) (h : n ≠ m) : keyLit n ≠ keyLit m := by
  intro e
  unfold keyLit at e
  injection e with e
  exact h (txt_inj hn hm e)
theorem nil_or_snoc {α : Type} (l : List α) : l = [] ∨ ∃ L b, l = L ++ [b] := by
  rcases List.eq_nil_or_concat l with h | ⟨L, b, h⟩
  · exact .inl h
  · exact .inr ⟨L, b, by rw [h, List.concat_eq_append]⟩
theorem hereOf_isMap' : ∀ (k : Nat) (out : List S46), out.length = k → Maps.IsMap (hereOf out) := by
  intro k
  induction k with
  | zero => intro out h; rw [List.eq_nil_of_length_eq_zero h]; exact ⟨[], rfl⟩
  | succ k ih =>
    intro out h
    rcases nil_or_snoc out with rfl | ⟨l, a, rfl⟩
    · exact ⟨[], rfl⟩
    · rw [hereOf_snoc]
      exact (ih l (by simpa using h)).put _ _
theorem hereOf_isMap (out : List S46) : Maps.IsMap (hereOf out) := hereOf_isMap' _ out rfl
theorem hereOf_miss (n : S46) (hn : Plainly n) (z : DataW Unit) : ∀ (k : Nat) (out : List S46), out.length = k → (∀ m ∈ out, Plainly m) → n ∉ out → (hereOf out).atKey (keyLit n) z = z := by
  intro k
  induction k with
  | zero =>
    intro out h _ _
    rw [List.eq_nil_of_length_eq_zero h]
    rfl
  | succ k ih =>
    intro out h hp hno
    rcases nil_or_snoc out with rfl | ⟨l, a, rfl⟩
    · simp at h
    · rw [hereOf_snoc, Maps.atKey_put_other (key_ne hn (hp a (by simp)) (fun e => hno (by simp [e])))]
      exact ih l (by simpa using h) (fun m hm => hp m (by simp [hm])) (fun hm => hno (by simp [hm]))
theorem hereOf_hit (z : DataW Unit) : ∀ (k : Nat) (out : List S46), out.length = k → (∀ m ∈ out, Plainly m) → out.Nodup → ∀ (i : Nat) (n : S46), out[i]? = some n → (hereOf out).atKey (keyLit n) z = .lit (.int .i64 ((i : Int) + 1)) := by
  intro k
  induction k with
  | zero =>
    intro out h _ _ i n hi
    rw [List.eq_nil_of_length_eq_zero h] at hi
    simp at hi
  | succ k ih =>
    intro out h hp hnd i n hi
    rcases nil_or_snoc out with rfl | ⟨l, a, rfl⟩
    · simp at h
    · rw [List.nodup_append] at hnd
      rw [hereOf_snoc]
      by_cases hil : i < l.length
      · rw [List.getElem?_append_left hil] at hi
        have hmem : n ∈ l := List.mem_of_getElem? hi
        have hne : n ≠ a := hnd.2.2 n hmem a (by simp)
        rw [Maps.atKey_put_other (key_ne (hp n (by simp [hmem])) (hp a (by simp)) hne)]
        exact ih l (by simpa using h) (fun m hm => hp m (by simp [hm])) hnd.1 i n hi
      · rw [List.getElem?_append_right (by omega)] at hi
        have hi0 : i - l.length = 0 := by
          rcases Nat.eq_zero_or_pos (i - l.length) with h0 | h0
          · exact h0
          · rw [List.getElem?_eq_none (by simp; omega)] at hi
            cases hi
        rw [hi0] at hi
        simp at hi
        subst hi
        rw [Maps.atKey_put_same (hereOf_isMap l) (key_is _)]
        have : i = l.length := by omega
        subst this
        rfl
end Go.Proofs.YtlgnogpjmdhflaaDoor
