/- Own and Equal, told plainly. -/
import Derived.Test.YtlgnogpjmdhflaaDoorTreeM
namespace Go.Proofs.YtlgnogpjmdhflaaDoor
open Go.RowKit Go.Proofs.YtlgnogpjmdhflaaDoorW.PrintWords Go.Proofs.YtlgnogpjmdhflaaDoorW.PrintLast Go.Proofs.YtlgnogpjmdhflaaDoorW.PrintMore Go.Proofs.YtlgnogpjmdhflaaDoor.PRef Go.Maps
set_option linter.unusedVariables false
set_option linter.unusedSimpArgs false

def conv (n : S46) : S47 := ⟨n.f0, n.f1, n.f2⟩
theorem conv_inj {a b : S46} (h : conv a = conv b) : a = b := by
  cases a
  cases b
  simp only [conv, S47.mk.injEq] at h
  obtain ⟨rfl, rfl, rfl⟩ := h
  rfl
theorem convs_inj : ∀ {a b : List S46}, a.map conv = b.map conv → a = b := by
  intro a
  induction a with
  | nil => intro b h; cases b with
    | nil => rfl
    | cons => simp at h
  | cons x a ih =>
    intro b h
    cases b with
    | nil => simp at h
    | cons y b =>
      simp only [List.map_cons, List.cons.injEq] at h
      rw [conv_inj h.1, ih h.2]
theorem w64 {i : Nat} (h : i < 9223372036854775807) : wrap64 ((i : Int) + 1) = ((i + 1 : Nat) : Int) := by
  have := WalkArith.wf_i64 (n := (i : Int) + 1) (by omega)
  first | (rw [wrap64_id (by omega) (by omega)]; omega) | (unfold wrap64; omega) | go_num
theorem own_l0 (l : List S46) (hl : l.length < 3518437208883) : ∀ (d i : Nat) (acc : List S47), i + d = l.length → acc.length = i → ∃ k, stratagemlaw19_Own.l0 k acc l (l.length : Int) (i : Int) = some (acc ++ (l.drop i).map conv) := by
  intro d
  induction d with
  | zero =>
    intro i acc h1 h2
    refine ⟨1, ?_⟩
    rw [stratagemlaw19_Own.l0, if_neg (by omega), List.drop_of_length_le (by omega)]
    simp
  | succ d ih =>
    intro i acc h1 h2
    have hi : i < l.length := by omega
    obtain ⟨k, hk⟩ := ih (i + 1) (acc ++ [conv l[i]]) (by omega) (by simp; omega)
    refine ⟨k + 1, ?_⟩
    rw [stratagemlaw19_Own.l0, if_pos (by omega), if_pos (by omega), if_pos (by omega), if_pos (by omega), w64 (by omega)]
    have e : rd_T46 l (i : Int) = l[i] := by unfold rd_T46; simp [List.getD_eq_getElem?_getD, List.getElem?_eq_getElem hi]
    rw [e]
    rw [show (⟨l[i].f0, l[i].f1, l[i].f2⟩ : S47) = conv l[i] from rfl, hk, List.drop_eq_getElem_cons hi, List.map_cons, List.append_assoc]
    rfl
theorem own_any (A : Option Addr) (c : Nat) (l : List S46) (w : World) (hC : k46.C w A l.length l) (hc : l.length ≤ c) (hl : l.length ≤ 1000000000) :
    Calls Tryd.prog 8 #[.slice A l.length c] w fun e w' => ∃ A' c', e = .returned (.slice A' l.length c') ∧ l.length ≤ c' ∧ k47.C w' A' l.length (l.map conv) ∧ Below w.heap.size w w' := by
  obtain ⟨k, hk⟩ := own_l0 l (by omega) l.length 0 [] (by omega) rfl
  have hk2 : stratagemlaw19_Own.f k l = some (l.map conv) := by
    unfold stratagemlaw19_Own.f
    simpa using hk
  refine (stratagemlaw19_Own.calls k (fun _ => True) A c l _ w ⟨A, c, rfl, hc, fun W' hW => k46_heap.C (fun k hk => hW k trivial hk) hC⟩ hk2).mono ?_
  rintro e w' ⟨v, rfl, hN, hb⟩
  obtain ⟨A', c', rfl, hle, hF⟩ := Kd.N_V (base' := 0) hN
  have hC' := Kd.F_now hF
  rw [List.length_map] at hle hC'
  exact ⟨A', c', by rw [List.length_map], hle, hC', hb⟩

/-! ### Equal -/
def rdk (x : List S47) (i : Nat) : S47 := x.getD i z47
theorem eq_l1 (a b : List S47) (i : Nat) (hia : i < a.length) (hib : i < b.length) (ha : a.length < 9223372036854775807) (hl : (rd_T47 a (i : Int)).f2.length = (rd_T47 b (i : Int)).f2.length) (hm : (rd_T47 a (i : Int)).f2.length < 9223372036854775807) {r : Bool} {P : Prop}
    (h : ∃ k, stratagemref19_Equal.l0 k a b ((i + 1 : Nat) : Int) = some r) (hr : r = true ↔ P) :
    ∀ (d j : Nat), j + d = (rd_T47 a (i : Int)).f2.length → ∃ k q, stratagemref19_Equal.l1 k a b (i : Int) (j : Int) = some q ∧ (q = true ↔ ((rd_T47 a (i : Int)).f2.drop j = (rd_T47 b (i : Int)).f2.drop j ∧ P)) := by
  intro d
  induction d with
  | zero =>
    intro j hj
    obtain ⟨k, hk⟩ := h
    refine ⟨k + 1, r, ?_, ?_⟩
    · rw [stratagemref19_Equal.l1, if_pos (by omega), if_pos (by omega), if_neg (by omega), w64 (by omega)]
      exact hk
    · rw [List.drop_of_length_le (by omega), List.drop_of_length_le (by omega)]
      simp [hr]
  | succ d ih =>
    intro j hj
    obtain ⟨k, q, hk, hq⟩ := ih (j + 1) (by omega)
    by_cases he : rd (rd_T47 a (i : Int)).f2 (j : Int) = rd (rd_T47 b (i : Int)).f2 (j : Int)
    · refine ⟨k + 1, q, ?_, ?_⟩
      · rw [stratagemref19_Equal.l1, if_pos (by omega), if_pos (by omega), if_pos (by omega), if_pos (by omega), if_pos (by omega), if_pos (by omega), if_pos he, w64 (by omega)]
        exact hk
      · rw [hq, List.drop_eq_getElem_cons (show j < (rd_T47 a (i : Int)).f2.length by omega), List.drop_eq_getElem_cons (show j < (rd_T47 b (i : Int)).f2.length by omega), List.cons.injEq]
        have h1 : j < (rd_T47 a (i : Int)).f2.length := by omega
        have h2 : j < (rd_T47 b (i : Int)).f2.length := by omega
        have e : (rd_T47 a (i : Int)).f2[j] = (rd_T47 b (i : Int)).f2[j] := by
          simpa [rd, List.getD_eq_getElem?_getD, List.getElem?_eq_getElem h1, List.getElem?_eq_getElem h2] using he
        simp [e]
    · refine ⟨k + 1, false, ?_, ?_⟩
      · rw [stratagemref19_Equal.l1, if_pos (by omega), if_pos (by omega), if_pos (by omega), if_pos (by omega), if_pos (by omega), if_pos (by omega), if_neg he]
      · have h1 : j < (rd_T47 a (i : Int)).f2.length := by omega
        have h2 : j < (rd_T47 b (i : Int)).f2.length := by omega
        have e : (rd_T47 a (i : Int)).f2[j] ≠ (rd_T47 b (i : Int)).f2[j] := by
          simpa [rd, List.getD_eq_getElem?_getD, List.getElem?_eq_getElem h1, List.getElem?_eq_getElem h2] using he
        rw [List.drop_eq_getElem_cons h1, List.drop_eq_getElem_cons h2, List.cons.injEq]
        simp [e]
theorem eq_l0 (a b : List S47) (hab : a.length = b.length) (ha : a.length < 9223372036854775807) (hm : ∀ n ∈ a, n.f2.length < 9223372036854775807) : ∀ (d i : Nat), i + d = a.length → ∃ k q, stratagemref19_Equal.l0 k a b (i : Int) = some q ∧ (q = true ↔ a.drop i = b.drop i) := by
  intro d
  induction d with
  | zero =>
    intro i hi
    refine ⟨1, true, ?_, ?_⟩
    · rw [stratagemref19_Equal.l0, if_neg (by omega)]
    · rw [List.drop_of_length_le (by omega), List.drop_of_length_le (by omega)]
      simp
  | succ d ih =>
    intro i hi
    have h1 : i < a.length := by omega
    have h2 : i < b.length := by omega
    obtain ⟨k, q, hk, hq⟩ := ih (i + 1) (by omega)
    have ea : rd_T47 a (i : Int) = a[i] := by unfold rd_T47; simp [List.getD_eq_getElem?_getD, List.getElem?_eq_getElem h1]
    have eb : rd_T47 b (i : Int) = b[i] := by unfold rd_T47; simp [List.getD_eq_getElem?_getD, List.getElem?_eq_getElem h2]
    have hm1 := hm a[i] (List.getElem_mem h1)
    rw [List.drop_eq_getElem_cons h1, List.drop_eq_getElem_cons h2, List.cons.injEq]
    have key : ∀ K x, stratagemref19_Equal.l0 (K + 1) a b (i : Int) = x ↔ (if ((rd_T47 a (i : Int)).f0) = ((rd_T47 b (i : Int)).f0) then (if ((rd_T47 a (i : Int)).f1) = ((rd_T47 b (i : Int)).f1) then (stratagemref19_Equal.j1 K a b (i : Int) ((((rd_T47 a (i : Int)).f2).length : Int) != (((rd_T47 b (i : Int)).f2).length : Int))) else (stratagemref19_Equal.j1 K a b (i : Int) true)) else (stratagemref19_Equal.j1 K a b (i : Int) true)) = x := by
      intro K x
      rw [stratagemref19_Equal.l0, if_pos (by omega), if_pos (by omega), if_pos (by omega)]
    by_cases e0 : (rd_T47 a (i : Int)).f0 = (rd_T47 b (i : Int)).f0
    · by_cases e1 : (rd_T47 a (i : Int)).f1 = (rd_T47 b (i : Int)).f1
      · by_cases e2 : (rd_T47 a (i : Int)).f2.length = (rd_T47 b (i : Int)).f2.length
        · obtain ⟨k2, q2, hk2, hq2⟩ := eq_l1 a b i h1 h2 ha e2 (by rw [ea]; exact hm1) ⟨k, hk⟩ hq (rd_T47 a (i : Int)).f2.length 0 (by omega)
          refine ⟨k2 + 2, q2, ?_, ?_⟩
          · rw [key, if_pos e0, if_pos e1, stratagemref19_Equal.j1, if_neg (by simp [e2])]
            exact hk2
          · rw [hq2, ea, eb]
            rw [ea, eb] at e0 e1
            simp only [List.drop_zero]
            refine and_congr ?_ Iff.rfl
            constructor
            · intro e
              cases h : a[i]
              cases h' : b[i]
              rw [h, h'] at e0 e1 e
              simp_all
            · intro e
              rw [e]
        · refine ⟨2, false, ?_, ?_⟩
          · rw [key, if_pos e0, if_pos e1, stratagemref19_Equal.j1, if_pos (by simp; omega)]
          · have : a[i] ≠ b[i] := fun e => e2 (by rw [ea, eb, e])
            simp [this]
      · refine ⟨2, false, ?_, ?_⟩
        · rw [key, if_pos e0, if_neg e1, stratagemref19_Equal.j1, if_pos rfl]
        · have : a[i] ≠ b[i] := fun e => e1 (by rw [ea, eb, e])
          simp [this]
    · refine ⟨2, false, ?_, ?_⟩
      · rw [key, if_neg e0, stratagemref19_Equal.j1, if_pos rfl]
      · have : a[i] ≠ b[i] := fun e => e0 (by rw [ea, eb, e])
        simp [this]
theorem equal_any (A B : Option Addr) (c d : Nat) (a b : List S47) (w : World) (hC : k47.C w A a.length a) (hc : a.length ≤ c) (hD : k47.C w B b.length b) (hd : b.length ≤ d) (ha : a.length < 9223372036854775807) (hm : ∀ n ∈ a, n.f2.length < 9223372036854775807) :
    Calls Tryd.prog 16 #[.slice A a.length c, .slice B b.length d] w fun e w' => (∃ q : Bool, e = .returned (.bool q) ∧ (q = true ↔ a = b)) ∧ Below w.heap.size w w' := by
  have : ∃ k q, stratagemref19_Equal.f k a b = some q ∧ (q = true ↔ a = b) := by
    by_cases h : a.length = b.length
    · obtain ⟨k, q, hk, hq⟩ := eq_l0 a b h ha hm a.length 0 (by omega)
      refine ⟨k, q, ?_, by simpa using hq⟩
      unfold stratagemref19_Equal.f
      rw [if_pos (by omega)]
      exact hk
    · refine ⟨0, false, ?_, ?_⟩
      · unfold stratagemref19_Equal.f
        rw [if_neg (by omega)]
      · have : a ≠ b := fun e => h (by rw [e])
        simp [this]
  obtain ⟨k, q, hk, hq⟩ := this
  refine (stratagemref19_Equal.calls k A c a B d b q w hC hc hD hd hk).mono ?_
  rintro e w' ⟨rfl, hD'⟩
  exact ⟨⟨q, rfl, hq⟩, hD'.below⟩
end Go.Proofs.YtlgnogpjmdhflaaDoor
