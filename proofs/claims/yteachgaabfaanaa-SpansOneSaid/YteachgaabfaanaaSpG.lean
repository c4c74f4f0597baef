/- Spans: Grow, Concat. -/
import Derived.Test.YteachgaabfaanaaSpF
namespace Go.Proofs.Yteachgaabfaanaa
open Go.RowKit Go.Proofs.YteachgaabfaanaaW.PrintWords Go.Proofs.YteachgaabfaanaaW.PrintLast Go.Proofs.YteachgaabfaanaaW.PrintMore Go.Proofs.Yteachgaabfaanaa.PRef
set_option linter.unusedVariables false
set_option linter.unusedSimpArgs false

set_option maxHeartbeats 4000000 in
set_option maxRecDepth 100000 in
theorem grow_zero (w : World) :
    Calls Try.prog 33 #[.slice none 0 0, .int .i64 0] w fun e w' => ∃ v, e = .returned v ∧ k40.R 40 w' w.heap.size (fun _ => True) v [] ∧ Below w.heap.size w w' := by
  go_enter Try.func33, Try.ntmps33
  go_wp2
  go_ret
  exact ⟨_, rfl, Kd.R_nil _ _ _ _ _, by first | exact Below.refl _ _ | exact below_drew (Below.refl _ _)⟩
set_option maxHeartbeats 4000000 in
set_option maxRecDepth 100000 in
theorem grow_some (n : Nat) (h0 : 0 < n) (hn : n ≤ 1000000) (w : World) :
    Calls Try.prog 33 #[.slice none 0 0, .int .i64 n] w fun e w' => ∃ v, e = .returned v ∧ k40.R 40 w' w.heap.size (fun _ => True) v [] ∧ Below w.heap.size w w' := by
  have d0 : decide ((n : Int) < 0) = false := decide_eq_false (by omega)
  have d1 : decide ((n : Int) > 0) = true := decide_eq_true (by omega)
  go_enter Try.func33, Try.ntmps33
  go_wp2_with (at_builtin; refine Kd.R_append_zeros k40 (w0 := w) w.heap.size rfl (.tmp 20) (.tmp 21) 22 3 40 (.agg #[(.int .i64 0), (.int .i64 0)]) 16 rfl Try.underlying22 Try.underlying3 info40 rfl (by decide) (by decide) _ [] (⟨0, 0⟩ : S40) n (fun _ => True) rfl rfl (k40_mkM _ _ _ (⟨0, 0⟩ : S40)) (fun _ _ => trivial) (Kd.R_nil _ _ _ _ _) (by omega) (Below.refl _ _) (Nat.le_refl _) (by simp; omega) ?_; intro v1 w1 hO1 hB1 hg1 hat1; rw [List.nil_append, Int.toNat_natCast] at hO1; obtain ⟨A1, c1, rfl, hc1, _⟩ := Kd.R_reads hO1; (try simp only [List.length_replicate] at hO1); (try simp only [List.length_replicate] at hc1); (try simp only [List.length_replicate] at hat1); (try simp only [List.length_replicate]))
  go_ret
  exact ⟨_, rfl, Kd.R_take hO1 (Nat.zero_le _), hB1⟩
theorem grow_calls (n : Nat) (hn : n ≤ 1000000) (w : World) :
    Calls Try.prog 33 #[.slice none 0 0, .int .i64 n] w fun e w' => ∃ v, e = .returned v ∧ k40.R 40 w' w.heap.size (fun _ => True) v [] ∧ Below w.heap.size w w' := by
  by_cases h : n = 0
  · subst h
    exact grow_zero w
  · exact grow_some n (by omega) hn w

/-- The argument of a call with two lists, as the variadic parameter holds it. -/
def twoCells (A : Option Addr) (n c : Nat) (B : Option Addr) (m d : Nat) : Array Value := #[.slice A n c, .slice B m d]
set_option maxHeartbeats 4000000 in
set_option maxRecDepth 100000 in
theorem concat_calls (A : Option Addr) (c : Nat) (a : List S40) (B : Option Addr) (d : Nat) (b : List S40) (g : Nat) (w : World) (hA : Kd.C k40 w A a.length a) (hB : Kd.C k40 w B b.length b) (hla : a.length ≤ 1000) (hlb : b.length ≤ 1000)
    (h0 : w.cell? ⟨g, 0, none⟩ = some (.slice A a.length c)) (h1 : w.cell? ⟨g, 1, none⟩ = some (.slice B b.length d)) :
    Calls Try.prog 28 #[.slice (some ⟨g, 0, none⟩) 2 2] w fun e w' => ∃ v, e = .returned v ∧ k40.R 40 w' w.heap.size (fun _ => True) v (a ++ b) ∧ Below w.heap.size w w' := by
  have HA := Lib.hid hA
  have HB := Lib.hid hB
  clear hA hB
  go_enter Try.func28, Try.ntmps28
  go_wp2_with fail
  have w1n : wrap64 ((a.length : Int) + (b.length : Int)) = (a.length : Int) + (b.length : Int) := by unfold wrap64; omega
  go_loopw [3, 11] (fun v3 v11 wr => ∃ j : Nat, j ≤ 2 ∧ v11 = .int .i64 j ∧ v3 = .int .i64 (if j = 0 then 0 else if j = 1 then (a.length : Int) else (a.length : Int) + (b.length : Int)) ∧ Below w.heap.size w wr) (fun _ v _ => 2 - (intOf v).toNat)
  case atStart => exact ⟨0, Nat.zero_le _, rfl, rfl, Below.refl _ _⟩
  case round =>
    obtain ⟨j, hj, rfl, rfl, hBr⟩ := hrel
    have k0 := cell_w hBr h0
    have k1 := cell_w hBr h1
    obtain rfl | rfl | rfl : j = 0 ∨ j = 1 ∨ j = 2 := by omega
    · go_wp2_with fail
      refine ⟨⟨1, by omega, rfl, by simp, hBr⟩, by simp [intOf]⟩
    · go_wp2_with fail
      refine ⟨⟨2, by omega, rfl, by simp, hBr⟩, by simp [intOf]⟩
    · go_wp2_with fail
      obtain ⟨wo, hwo⟩ : ∃ x, x = wr := ⟨_, rfl⟩
      subst hwo
      refine (grow_calls (a.length + b.length) (by omega) wo).mono ?_
      rintro e w2 ⟨v, rfl, hR, hb⟩
      have HR2 := Lib.hid hR
      have hb2 := hb
      clear hR hb
      go_wp2_with fail
      go_loopw [6, 27] (fun v6 v27 wq => ∃ j : Nat, j ≤ 2 ∧ v27 = .int .i64 j ∧ Hid (k40.R 40 wq wo.heap.size (fun _ => True) v6 (if j = 0 then [] else if j = 1 then a else a ++ b)) ∧ Below wo.heap.size wo wq) (fun _ v _ => 2 - (intOf v).toNat)
      case atStart => exact ⟨0, Nat.zero_le _, rfl, HR2, hb2⟩
      case round =>
        obtain ⟨j, hj, rfl, hRq, hBq⟩ := hrel
        have q0 := cell_w hBq k0
        have q1 := cell_w hBq k1
        have hBw := hBr.trans (hBq.mono hBr.size)
        have HBW := Lib.hid hBw
        have HA2 := Lib.hid (Kd.C_below HA.out hBw)
        have HB2 := Lib.hid (Kd.C_below HB.out hBw)
        obtain rfl | rfl | rfl : j = 0 ∨ j = 1 ∨ j = 2 := by omega
        · have hR0 := hRq.out
          simp only [show ¬ (1 = 0) by omega, if_false, if_true] at hR0
          go_wp2_with (at_builtin; refine Kd.R_append_rows k40 (Rr := k40.K wr) (w0 := wo) wo.heap.size rfl (.tmp 31) (.tmp 32) 22 40 (.agg #[(.int .i64 0), (.int .i64 0)]) 16 rfl Try.underlying22 info40 rfl (by decide) (by decide) _ [] a A a.length c (fun _ => True) (fun _ => False) rfl rfl hR0 HA2.out (fun x cs h => by rw [k40_open h]; exact k40_mkM _ _ _ _) (fun _ hk => hk.elim) (fun _ _ => trivial) hBq hBq.size (by first | omega | (simp; omega)) ?_; intro v1 w1 hO1 hB1 hg1 hat1)
          refine ⟨⟨1, by omega, rfl, Lib.hid (by simpa using hO1), hB1⟩, by simp [intOf]⟩
        · have hR0 := hRq.out
          simp only [show ¬ (1 = 0) by omega, if_false, if_true] at hR0
          go_wp2_with (at_builtin; refine Kd.R_append_rows k40 (Rr := k40.K wr) (w0 := wo) wo.heap.size rfl (.tmp 31) (.tmp 32) 22 40 (.agg #[(.int .i64 0), (.int .i64 0)]) 16 rfl Try.underlying22 info40 rfl (by decide) (by decide) _ a b B b.length d (fun _ => True) (fun _ => False) rfl rfl hR0 HB2.out (fun x cs h => by rw [k40_open h]; exact k40_mkM _ _ _ _) (fun _ hk => hk.elim) (fun _ _ => trivial) hBq hBq.size (by first | omega | (simp; omega)) ?_; intro v1 w1 hO1 hB1 hg1 hat1)
          refine ⟨⟨2, by omega, rfl, Lib.hid (by simpa using hO1), hB1⟩, by simp [intOf]⟩
        · go_wp2_with fail
          go_ret
          have hR3 := hRq.out
          simp only [show ¬ (2 = 0) by omega, show ¬ (2 = 1) by omega, if_false] at hR3
          exact ⟨_, rfl, Kd.R_lower hR3 hBr.size, HBW.out⟩
end Go.Proofs.Yteachgaabfaanaa
