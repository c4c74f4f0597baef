/- Spans: Of. -/
import Derived.Test.YteachgaabfaanaaSpE
namespace Go.Proofs.Yteachgaabfaanaa
open Go.RowKit Go.Proofs.YteachgaabfaanaaW.PrintWords Go.Proofs.YteachgaabfaanaaW.PrintLast Go.Proofs.YteachgaabfaanaaW.PrintMore Go.Proofs.Yteachgaabfaanaa.PRef
set_option linter.unusedVariables false
set_option linter.unusedSimpArgs false

def ofL (vs : List Int) (j : Nat) : List S40 := unsps (SM.ofM (vs.take j))
theorem ofL_succ (vs : List Int) (j : Nat) (h : j < vs.length) : ofL vs (j + 1) = putS (ofL vs j) ⟨rd vs j, rd vs j⟩ := by
  unfold ofL putS
  rw [take_rd vs j h]
  unfold SM.ofM
  rw [List.foldl_append, sps_unsps]
  rfl
theorem putM_length (l : List SM.Sp) (s : SM.Sp) : (SM.putM l s).length ≤ l.length + 1 := by
  unfold SM.putM
  split
  · simp
  · split <;> simp <;> omega
theorem ofL_length (vs : List Int) : ∀ j, j ≤ vs.length → (ofL vs j).length ≤ j := by
  intro j
  induction j with
  | zero => intro _; exact Nat.le_refl _
  | succ j ih =>
    intro hj
    rw [ofL_succ vs j (by omega)]
    have := ih (by omega)
    have h2 := putM_length (sps (ofL vs j)) (sp ⟨rd vs j, rd vs j⟩)
    rw [sps_length] at h2
    unfold putS
    rw [unsps_length]
    omega
def okV (v : Int) : Bool := decide (-SM.M ≤ v) && decide (v ≤ SM.M)
theorem ofL_right (zs : List Int) (j : Nat) (h : ∀ i, i < j → okV (rd (SM.sortM zs) i) = true) (hj : j ≤ zs.length) : SM.Right (sps (ofL (SM.sortM zs) j)) := by
  unfold ofL
  rw [sps_unsps]
  refine (SM.ofM_spec _ (fun v hv => ?_) ((SM.sorted_merge zs).1.sublist (List.take_sublist _ _))).1
  obtain ⟨i, hi, rfl⟩ := List.getElem_of_mem hv
  have hl := sortM_length zs
  have hi' : i < j := by simp at hi; omega
  have := h i hi'
  have e : rd (SM.sortM zs) (i : Nat) = (SM.sortM zs)[i]'(by omega) := by
    unfold rd
    simp [List.getD_eq_getElem?_getD, List.getElem?_eq_getElem (show i < (SM.sortM zs).length by omega)]
  rw [e] at this
  unfold okV at this
  have hg : (SM.sortM zs)[i]'(by omega) = (List.take j (zs.mergeSort fun x y => decide (x ≤ y)))[i] := by
    rw [List.getElem_take]
    rfl
  rw [hg] at this
  simp only [Bool.and_eq_true, decide_eq_true_eq] at this
  exact this
theorem right_bd {l : List S40} (h : SM.Right (sps l)) : ∀ p ∈ l, -4611686018427387904 ≤ p.f1 ∧ p.f1 ≤ 4611686018427387903 := by
  intro p hp
  have := SM.chain_mem h (sp p) (List.mem_map_of_mem hp)
  unfold SM.M sp at this
  simp only at this
  omega
theorem ofOk_no (zs : List Int) (j : Nat) (hj : j < zs.length) (h : okV (rd (SM.sortM zs) j) = false) : SM.ofOk zs = false := by
  cases hb : SM.ofOk zs with
  | false => rfl
  | true =>
    unfold SM.ofOk at hb
    rw [List.all_eq_true] at hb
    have hl := sortM_length zs
    have e : rd (SM.sortM zs) (j : Nat) = (SM.sortM zs)[j]'(by omega) := by
      unfold rd
      simp [List.getD_eq_getElem?_getD, List.getElem?_eq_getElem (show j < (SM.sortM zs).length by omega)]
    have := hb _ (((SM.sorted_merge zs).2 _).1 (List.getElem_mem (show j < (SM.sortM zs).length by omega)))
    rw [e] at h
    unfold okV at h
    rw [this] at h
    cases h
theorem ofOk_yes (zs : List Int) (h : ∀ i, i < zs.length → okV (rd (SM.sortM zs) i) = true) : SM.ofOk zs = true := by
  unfold SM.ofOk
  rw [List.all_eq_true]
  intro v hv
  have hv' := ((SM.sorted_merge zs).2 v).2 hv
  obtain ⟨i, hi, rfl⟩ := List.getElem_of_mem hv'
  have hl := sortM_length zs
  have hi2 : i < (SM.sortM zs).length := hi
  have e : rd (SM.sortM zs) (i : Nat) = (SM.sortM zs)[i]'hi2 := by
    unfold rd
    simp [List.getD_eq_getElem?_getD, List.getElem?_eq_getElem hi2]
  have := h i (by have : i < (SM.sortM zs).length := hi; omega)
  rw [e] at this
  exact this

set_option maxHeartbeats 4000000 in
set_option maxRecDepth 100000 in
theorem of_calls (A : Option Addr) (c : Nat) (zs : List Int) (w : World) (hC : Kd.C (Kd.int .i64) w A zs.length zs) (hl : zs.length ≤ 1000) :
    Calls Try.prog 14 #[.slice A zs.length c] w fun e w' => Below w.heap.size w w' ∧ ((SM.ofOk zs = true ∧ ∃ v, e = .returned (.tuple #[v, .int .i64 0]) ∧ k40.R 40 w' w.heap.size (fun _ => True) v (unsps (SM.ofM (SM.sortM zs)))) ∨ (SM.ofOk zs = false ∧ e = .returned (.tuple #[.slice none 0 0, .int .i64 1]))) := by
  have HC := Lib.hid hC
  clear hC
  go_enter Try.func14, Try.ntmps14
  go_wp2_with fail
  refine (callsIn_wide.1 (vals_in Fence.wide 1 trivial rfl A zs.length c w)).mono ?_
  rintro e w0 ⟨rfl, rfl⟩
  have hB0 := below_alloc (Below.refl w.heap.size w) (.cells #[.slice A zs.length c] 26)
  have hbx : (w.alloc (.cells #[.slice A zs.length c] 26)).cell? ⟨w.heap.size, 0, none⟩ = some (.slice A zs.length c) := by rw [cell_of_row _ w.heap.size 0 _ _ _ (heap_alloc_new w (.cells #[.slice A zs.length c] 26))]; rfl
  have HB0 := Lib.hid hB0
  have HBX := Lib.hid hbx
  clear hB0 hbx
  go_wp2_with fail
  refine (sorted_calls w.heap.size c A zs w _ HC.out (by omega) HB0.out (by simp) HBX.out).mono ?_
  rintro e w1 ⟨v, rfl, hI, hb⟩
  have hB1 : Below w.heap.size w w1 := HB0.out.trans (hb.mono HB0.out.size)
  obtain ⟨SA, sc, rfl, hsc, hS⟩ := Kd.R_reads hI
  have hsl := sortM_length zs
  clear hI hb HB0 HBX
  have HS := Lib.hid hS
  have HB1 := Lib.hid hB1
  clear hS hB1
  go_wp2_with fail
  go_loopw [4, 11] (fun v4 v11 wr => ∃ j : Nat, j ≤ zs.length ∧ v11 = .int .i64 j ∧ Hid (∀ i, i < j → okV (rd (SM.sortM zs) i) = true) ∧ Hid (k40.R 40 wr w1.heap.size (fun _ => True) v4 (ofL (SM.sortM zs) j)) ∧ Hid (Below w1.heap.size w1 wr)) (fun _ v _ => zs.length - (intOf v).toNat)
  case atStart => exact ⟨0, Nat.zero_le _, rfl, Lib.hid (fun i hi => absurd hi (Nat.not_lt_zero _)), Lib.hid (Kd.R_nil _ _ _ _ _), Lib.hid (Below.refl _ _)⟩
  case round =>
    obtain ⟨j, hj, rfl, hN, hR, hBr⟩ := hrel
    by_cases hlt : j < zs.length
    · obtain ⟨ad, rfl, hck⟩ := Kd.at_int (Kd.C_below HS.out hBr.out) (j : Int) (by omega) (by omega)
      simp only [Int.toNat_natCast] at hck
      have hsucc := ofL_succ (SM.sortM zs) j (by omega)
      have hno := ofOk_no zs j hlt
      have hrt := ofL_right zs j hN.out hj
      have hlen := ofL_length (SM.sortM zs) j (by omega)
      have hst : okV (rd (SM.sortM zs) j) = true → ∀ i, i < j + 1 → okV (rd (SM.sortM zs) i) = true := fun h i hi => by
        by_cases e : i = j
        · subst e; exact h
        · exact hN.out i (by omega)
      generalize rd (SM.sortM zs) (j : Int) = x at hck hsucc hno hst
      have HSU := Lib.hid hsucc
      have HNO := Lib.hid hno
      have HRT := Lib.hid hrt
      have HLE := Lib.hid hlen
      have HST := Lib.hid hst
      clear hsucc hno hrt hlen hst
      have hBw := HB1.out.trans (hBr.out.mono HB1.out.size)
      have HBW := Lib.hid hBw
      clear hBw
      by_cases c1 : x < -1048576
      · have d1 : decide (x < -1048576) = true := decide_eq_true c1
        have hf : okV x = false := by unfold okV SM.M; rw [decide_eq_false (show ¬ -1048576 ≤ x by omega)]; rfl
        go_wp2_with fail
        go_ret2
        exact ⟨HBW.out, .inr ⟨HNO.out hf, rfl⟩⟩
      · by_cases c2 : x > 1048576
        · have d1 : decide (x < -1048576) = false := decide_eq_false c1
          have d2 : decide (x > 1048576) = true := decide_eq_true c2
          have hf : okV x = false := by unfold okV SM.M; rw [decide_eq_false (show ¬ x ≤ 1048576 by omega), Bool.and_false]
          go_wp2_with fail
          go_ret2
          exact ⟨HBW.out, .inr ⟨HNO.out hf, rfl⟩⟩
        · have d1 : decide (x < -1048576) = false := decide_eq_false c1
          have d2 : decide (x > 1048576) = false := decide_eq_false c2
          have hf : okV x = true := by unfold okV SM.M; rw [decide_eq_true (show -1048576 ≤ x by omega), decide_eq_true (show x ≤ 1048576 by omega)]; rfl
          go_wp2_with fail
          refine (put_any w1.heap.size (fun _ => True) _ (ofL (SM.sortM zs) j) ⟨x, x⟩ _ (right_bd HRT.out) (by have := HLE.out; omega) hR.out (fun _ _ => trivial) hBr.out.size).mono ?_
          rintro e w2 ⟨v2, rfl, hR2, hg2, _⟩
          go_wp2_with fail
          refine ⟨⟨j + 1, by omega, by go_num, Lib.hid (HST.out hf), Lib.hid (by rw [HSU.out]; exact hR2), Lib.hid (hBr.out.grown hg2 hBr.out.size (fun k hk => Kd.R_base hR.out k hk))⟩, ?_⟩
          simp [intOf]; omega
    · obtain rfl : j = zs.length := by omega
      go_wp2_with fail
      go_ret2
      refine ⟨HB1.out.trans (hBr.out.mono HB1.out.size), .inl ⟨ofOk_yes zs hN.out, _, rfl, ?_⟩⟩
      have hR2 := hR.out
      have e : ofL (SM.sortM zs) zs.length = unsps (SM.ofM (SM.sortM zs)) := by unfold ofL; rw [← hsl, List.take_length]
      rw [e] at hR2
      exact Kd.R_lower hR2 HB1.out.size
end Go.Proofs.Yteachgaabfaanaa
