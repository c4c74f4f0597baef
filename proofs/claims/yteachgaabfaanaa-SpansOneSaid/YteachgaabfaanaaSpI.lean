/- Spans: Union, Meet, Less. -/
import Derived.Test.YteachgaabfaanaaSpH
namespace Go.Proofs.Yteachgaabfaanaa
open Go.RowKit Go.Proofs.YteachgaabfaanaaW.PrintWords Go.Proofs.YteachgaabfaanaaW.PrintLast Go.Proofs.YteachgaabfaanaaW.PrintMore Go.Proofs.Yteachgaabfaanaa.PRef
set_option linter.unusedVariables false
set_option linter.unusedSimpArgs false

theorem parts_calls (g : Nat) (K : Bool → Bool → Bool) (hK : Keeps g K) (hent : ∀ (args : Array Value) (w : World), (callFunc g args).run Try.prog w = .ok (.enter g args) w) (A : Option Addr) (c : Nat) (a : List S40) (B : Option Addr) (d : Nat) (b : List S40) (w : World) (hA : Kd.C k40 w A a.length a) (hca : a.length ≤ c) (hB : Kd.C k40 w B b.length b) (hcb : b.length ≤ d) (hla : a.length ≤ 1000) (hlb : b.length ≤ 1000) :
    Calls Try.prog 21 #[.slice A a.length c, .slice B b.length d, .func (.func g) #[] #[]] w fun e w' => ∃ v, e = .returned v ∧ k40.R 40 w' w.heap.size (fun _ => True) v (partsB K a b) ∧ Below w.heap.size w w' := by
  cases h : rightB a && rightB b
  · refine (parts_not g K A c a B d b w hA hca hB hcb hla hlb h).mono ?_
    rintro e w' ⟨v, rfl, hR, hb⟩
    exact ⟨v, rfl, by unfold partsB; rw [h]; exact hR, hb⟩
  · have h' := h
    rw [Bool.and_eq_true] at h'
    refine (parts_yes g K hK hent A c a B d b w hA hca hB hcb hla hlb h'.1 h'.2).mono ?_
    rintro e w' ⟨v, rfl, hR, hb⟩
    exact ⟨v, rfl, by unfold partsB; rw [h]; exact hR, hb⟩
def K3 : Nat → Bool → Bool → Bool
  | 0 => fun x y => x || y
  | 1 => fun x y => x && y
  | _ => fun x y => x && !y
set_option maxHeartbeats 1000000 in
set_option maxRecDepth 100000 in
theorem union_calls (A : Option Addr) (c : Nat) (a : List S40) (B : Option Addr) (d : Nat) (b : List S40) (w : World) (hA : Kd.C k40 w A a.length a) (hca : a.length ≤ c) (hB : Kd.C k40 w B b.length b) (hcb : b.length ≤ d) (hla : a.length ≤ 1000) (hlb : b.length ≤ 1000) :
    Calls Try.prog 6 #[.slice A a.length c, .slice B b.length d] w fun e w' => ∃ v, e = .returned v ∧ k40.R 40 w' w.heap.size (fun _ => True) v (partsB (K3 0) a b) ∧ Below w.heap.size w w' := by
  have HA := Lib.hid hA
  have HB := Lib.hid hB
  clear hA hB
  go_enter Try.func6, Try.ntmps6
  go_wp2_with fail
  refine (parts_calls 22 (K3 0) keeps_union (enters_of Try.func22 (by kernel_rfl) rfl) A c a B d b _ HA.out hca HB.out hcb hla hlb).mono ?_
  rintro e w' ⟨v, rfl, hR, hb⟩
  go_wp2
  go_ret
  exact ⟨v, rfl, hR, hb⟩
set_option maxHeartbeats 1000000 in
set_option maxRecDepth 100000 in
theorem meet_calls (A : Option Addr) (c : Nat) (a : List S40) (B : Option Addr) (d : Nat) (b : List S40) (w : World) (hA : Kd.C k40 w A a.length a) (hca : a.length ≤ c) (hB : Kd.C k40 w B b.length b) (hcb : b.length ≤ d) (hla : a.length ≤ 1000) (hlb : b.length ≤ 1000) :
    Calls Try.prog 7 #[.slice A a.length c, .slice B b.length d] w fun e w' => ∃ v, e = .returned v ∧ k40.R 40 w' w.heap.size (fun _ => True) v (partsB (K3 1) a b) ∧ Below w.heap.size w w' := by
  have HA := Lib.hid hA
  have HB := Lib.hid hB
  clear hA hB
  go_enter Try.func7, Try.ntmps7
  go_wp2_with fail
  refine (parts_calls 23 (K3 1) keeps_meet (enters_of Try.func23 (by kernel_rfl) rfl) A c a B d b _ HA.out hca HB.out hcb hla hlb).mono ?_
  rintro e w' ⟨v, rfl, hR, hb⟩
  go_wp2
  go_ret
  exact ⟨v, rfl, hR, hb⟩
set_option maxHeartbeats 1000000 in
set_option maxRecDepth 100000 in
theorem less_calls (A : Option Addr) (c : Nat) (a : List S40) (B : Option Addr) (d : Nat) (b : List S40) (w : World) (hA : Kd.C k40 w A a.length a) (hca : a.length ≤ c) (hB : Kd.C k40 w B b.length b) (hcb : b.length ≤ d) (hla : a.length ≤ 1000) (hlb : b.length ≤ 1000) :
    Calls Try.prog 8 #[.slice A a.length c, .slice B b.length d] w fun e w' => ∃ v, e = .returned v ∧ k40.R 40 w' w.heap.size (fun _ => True) v (partsB (K3 2) a b) ∧ Below w.heap.size w w' := by
  have HA := Lib.hid hA
  have HB := Lib.hid hB
  clear hA hB
  go_enter Try.func8, Try.ntmps8
  go_wp2_with fail
  refine (parts_calls 24 (K3 2) keeps_less (enters_of Try.func24 (by kernel_rfl) rfl) A c a B d b _ HA.out hca HB.out hcb hla hlb).mono ?_
  rintro e w' ⟨v, rfl, hR, hb⟩
  go_wp2
  go_ret
  exact ⟨v, rfl, hR, hb⟩
end Go.Proofs.Yteachgaabfaanaa
