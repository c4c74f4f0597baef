/- Spans: the law of sets. -/
import Derived.Test.YteachgaabfaanaaSpK
import Derived.Test.YteachgaabfaanaaSpL
namespace Go.Proofs.Yteachgaabfaanaa
open Go.RowKit Go.Proofs.YteachgaabfaanaaW.PrintWords Go.Proofs.YteachgaabfaanaaW.PrintLast Go.Proofs.YteachgaabfaanaaW.PrintMore Go.Proofs.Yteachgaabfaanaa.PRef
set_option linter.unusedVariables false
set_option linter.unusedSimpArgs false

theorem build_length (f : Int → Bool) : ∀ (es : List Int) (acc : List SM.Sp), (SM.buildM f es acc).length ≤ acc.length + es.length := by
  intro es
  induction es with
  | nil =>
    intro acc
    rw [SM.buildM]
    · exact Nat.le_add_right _ _
    · intro x y r h; cases h
  | cons x es ih =>
    intro acc
    cases es with
    | nil =>
      rw [SM.buildM]
      · exact Nat.le_add_right _ _
      · intro x y r h; cases h
    | cons y r =>
      rw [SM.buildM]
      have := ih (if f x then SM.putM acc (x, y - 1) else acc)
      have h2 : (if f x then SM.putM acc (x, y - 1) else acc).length ≤ acc.length + 1 := by
        split
        · exact putM_length _ _
        · omega
      simp only [List.length_cons] at this ⊢
      omega
theorem partsB_length (K : Bool → Bool → Bool) (a b : List S40) : (partsB K a b).length ≤ 2 * (a.length + b.length) := by
  unfold partsB
  split
  · rw [unsps_length]
    have h1 := build_length (fun v => K (SM.inB (sps a) v) (SM.inB (sps b) v)) (SM.endsM (sps a) (sps b)) []
    have h2 := compact_length (SM.sortM (SM.endsOf (sps a ++ sps b)))
    have h3 := sortM_length (SM.endsOf (sps a ++ sps b))
    have h4 := ends_length (a ++ b)
    have e : sps (a ++ b) = sps a ++ sps b := by unfold sps; rw [List.map_append]
    rw [e, List.length_append] at h4
    have h5 : (SM.endsM (sps a) (sps b)).length ≤ 2 * (a.length + b.length) := by
      unfold SM.endsM
      omega
    have h6 : (SM.partsM K (sps a) (sps b)).length ≤ (SM.endsM (sps a) (sps b)).length := by
      have := h1
      simp only [List.length_nil, Nat.zero_add] at this
      exact this
    omega
  · simp
theorem partsB_not (K : Bool → Bool → Bool) {a b : List S40} (h : (rightB a && rightB b) = false) : partsB K a b = [] := by unfold partsB; rw [h]; rfl
theorem partsB_yes (j : Nat) {a b : List S40} (ha : rightB a = true) (hb : rightB b = true) : rightB (partsB (K3 j) a b) = true ∧ ∀ v, SM.inB (sps (partsB (K3 j) a b)) v = K3 j (SM.inB (sps a) v) (SM.inB (sps b) v) := by
  have hs := SM.partsM_spec ((rightB_iff a).1 ha) ((rightB_iff b).1 hb) (K3 j) (by
    match j with
    | 0 => rfl
    | 1 => rfl
    | _ + 2 => rfl)
  unfold partsB
  rw [ha, hb]
  refine ⟨(rightB_iff _).2 ?_, fun v => ?_⟩
  · show SM.Right (sps (unsps _))
    rw [sps_unsps]
    exact hs.1
  · show SM.inB (sps (unsps _)) v = _
    rw [sps_unsps]
    exact hs.2 v
theorem parts_sizes {a b : List S40} (ha : rightB a = true) (hb : rightB b = true) : SM.size (sps (partsB (K3 0) a b)) = SM.size (sps a) + SM.size (sps b) - SM.size (sps (partsB (K3 1) a b)) ∧ SM.size (sps (partsB (K3 2) a b)) = SM.size (sps a) - SM.size (sps (partsB (K3 1) a b)) := by
  have h0 := partsB_yes 0 ha hb
  have h1 := partsB_yes 1 ha hb
  have h2 := partsB_yes 2 ha hb
  exact SM.sizes ((rightB_iff _).1 ha) ((rightB_iff _).1 hb) ((rightB_iff _).1 h0.1) ((rightB_iff _).1 h1.1) ((rightB_iff _).1 h2.1) h0.2 h1.2 h2.2
theorem rd_mem (xs : List Int) (j : Nat) (h : j < xs.length) : rd xs (j : Int) ∈ xs := by
  unfold rd
  rw [List.getD_eq_getElem?_getD]
  simp [List.getElem?_eq_getElem h]
/-- What the law looks at, of a number. -/
theorem sets_in {a b : List S40} (ha : rightB a = true) (hb : rightB b = true) (v : Int) : SM.inB (sps (partsB (K3 0) a b)) v = (SM.inB (sps a) v || SM.inB (sps b) v) ∧ SM.inB (sps (partsB (K3 1) a b)) v = (SM.inB (sps a) v && SM.inB (sps b) v) ∧ SM.inB (sps (partsB (K3 2) a b)) v = (SM.inB (sps a) v && !SM.inB (sps b) v) :=
  ⟨(partsB_yes 0 ha hb).2 v, (partsB_yes 1 ha hb).2 v, (partsB_yes 2 ha hb).2 v⟩

set_option maxHeartbeats 8000000 in
set_option maxRecDepth 100000 in
theorem sets_calls (A : Option Addr) (c : Nat) (a : List S40) (B : Option Addr) (d : Nat) (b : List S40) (w : World) (hA : Kd.C k40 w A a.length a) (hca : a.length ≤ c) (hB : Kd.C k40 w B b.length b) (hcb : b.length ≤ d) :
    Calls Try.prog 3 #[.slice A a.length c, .slice B b.length d] w fun e w' => e = .returned (.bool true) ∧ Below w.heap.size w w' := by
  have HA := Lib.hid hA
  have HB := Lib.hid hB
  clear hA hB
  by_cases hla : 60 < a.length
  · have d1 : decide ((60 : Int) < (a.length : Int)) = true := decide_eq_true (by omega)
    go_enter Try.func3, Try.ntmps3
    go_wp2_with fail
    refine (awake_calls _).mono ?_
    rintro e w1 ⟨rfl, hb⟩
    go_wp2_with fail
    go_ret
    exact ⟨rfl, hb⟩
  · have d1 : decide ((60 : Int) < (a.length : Int)) = false := decide_eq_false (by omega)
    by_cases hlb : 60 < b.length
    · have d2 : decide ((60 : Int) < (b.length : Int)) = true := decide_eq_true (by omega)
      go_enter Try.func3, Try.ntmps3
      go_wp2_with fail
      refine (awake_calls _).mono ?_
      rintro e w1 ⟨rfl, hb⟩
      go_wp2_with fail
      go_ret
      exact ⟨rfl, hb⟩
    · have d2 : decide ((60 : Int) < (b.length : Int)) = false := decide_eq_false (by omega)
      go_enter Try.func3, Try.ntmps3
      go_wp2_with fail
      refine (awake_calls _).mono ?_
      rintro e w1 ⟨rfl, hb⟩
      have HW := Lib.hid hb
      clear hb
      have HA1 := Lib.hid (Kd.C_below HA.out HW.out)
      have HB1 := Lib.hid (Kd.C_below HB.out HW.out)
      go_wp2_with fail
      refine (union_calls A c a B d b _ HA1.out hca HB1.out hcb (by omega) (by omega)).mono ?_
      rintro e w2 ⟨v, rfl, hR, hb⟩
      obtain ⟨UA, uc, rfl, huc, hC⟩ := Kd.R_reads hR
      have HU := Lib.hid hC
      have HX := Lib.hid hb
      clear hR hC hb
      go_wp2_with fail
      refine (meet_calls A c a B d b _ (Kd.C_below HA1.out HX.out) hca (Kd.C_below HB1.out HX.out) hcb (by omega) (by omega)).mono ?_
      rintro e w3 ⟨v, rfl, hR, hb⟩
      obtain ⟨MA, mc, rfl, hmc, hC⟩ := Kd.R_reads hR
      have HM := Lib.hid hC
      have HU3 := Lib.hid (Kd.C_below HU.out hb)
      replace HX := Lib.hid (HX.out.trans (hb.mono HX.out.size))
      clear hR hC hb
      go_wp2_with fail
      refine (less_calls A c a B d b _ (Kd.C_below HA1.out HX.out) hca (Kd.C_below HB1.out HX.out) hcb (by omega) (by omega)).mono ?_
      rintro e w4 ⟨v, rfl, hR, hb⟩
      obtain ⟨LA, lc, rfl, hlc, hC⟩ := Kd.R_reads hR
      have HL4 := Lib.hid hC
      have HU4 := Lib.hid (Kd.C_below HU3.out hb)
      have HM4 := Lib.hid (Kd.C_below HM.out hb)
      replace HX := Lib.hid (HX.out.trans (hb.mono HX.out.size))
      have HA4 := Lib.hid (Kd.C_below HA1.out HX.out)
      have HB4 := Lib.hid (Kd.C_below HB1.out HX.out)
      have HW4 := Lib.hid (HW.out.trans (HX.out.mono HW.out.size))
      clear hR hC hb HU HU3 HM HA HB HA1 HB1 HX HW
      have hnot := fun h => (⟨partsB_not (K3 0) h, partsB_not (K3 1) h, partsB_not (K3 2) h⟩ : partsB (K3 0) a b = [] ∧ partsB (K3 1) a b = [] ∧ partsB (K3 2) a b = [])
      have hin := fun ha hb v => sets_in (a := a) (b := b) ha hb v
      have hrt := fun ha hb => (⟨(partsB_yes 0 (a := a) (b := b) ha hb).1, (partsB_yes 1 (a := a) (b := b) ha hb).1, (partsB_yes 2 (a := a) (b := b) ha hb).1⟩ : rightB (partsB (K3 0) a b) = true ∧ rightB (partsB (K3 1) a b) = true ∧ rightB (partsB (K3 2) a b) = true)
      have hsz := fun ha hb => parts_sizes (a := a) (b := b) ha hb
      have hlU : (partsB (K3 0) a b).length ≤ 1000000 := by have := partsB_length (K3 0) a b; omega
      have hlM : (partsB (K3 1) a b).length ≤ 1000000 := by have := partsB_length (K3 1) a b; omega
      have hlL : (partsB (K3 2) a b).length ≤ 1000000 := by have := partsB_length (K3 2) a b; omega
      generalize partsB (K3 0) a b = U at hnot hin hrt hsz hlU huc HU4 ⊢
      generalize partsB (K3 1) a b = M at hnot hin hrt hsz hlM hmc HM4 ⊢
      generalize partsB (K3 2) a b = L at hnot hin hrt hsz hlL hlc HL4 ⊢
      have HNOT := Lib.hid hnot
      have HIN := Lib.hid hin
      have HRT := Lib.hid hrt
      have HSZ := Lib.hid hsz
      clear hnot hin hrt hsz
      obtain ⟨ka, hka⟩ := rrightF a (by omega)
      obtain ⟨kb, hkb⟩ := rrightF b (by omega)
      have HKA := Lib.hid hka
      have HKB := Lib.hid hkb
      clear hka hkb
      cases hra : rightB a
      · have HRA := Lib.hid hra
        obtain ⟨rfl, rfl, rfl⟩ := HNOT.out (by rw [HRA.out]; rfl)
        go_wp2_with fail
        refine (stratagemref03_Right.calls ka A c a _ _ HA4.out hca HKA.out).mono ?_
        rintro e w5 ⟨rfl, hb⟩
        replace hb := hb.below
        rw [hra]
        clear hra
        go_wp2_with fail
        go_ret
        exact ⟨rfl, HW4.out.trans (hb.mono HW4.out.size)⟩
      · cases hrb : rightB b
        · have HRB := Lib.hid hrb
          obtain ⟨rfl, rfl, rfl⟩ := HNOT.out (by rw [HRB.out, Bool.and_false])
          go_wp2_with fail
          refine (stratagemref03_Right.calls ka A c a _ _ HA4.out hca HKA.out).mono ?_
          rintro e w5 ⟨rfl, hb⟩
          replace hb := hb.below
          rw [hra]
          have HB5 := Lib.hid (Kd.C_below HB4.out hb)
          have HW5 := Lib.hid (HW4.out.trans (hb.mono HW4.out.size))
          clear hb
          go_wp2_with fail
          refine (stratagemref03_Right.calls kb B d b _ _ HB5.out hcb HKB.out).mono ?_
          rintro e w6 ⟨rfl, hb⟩
          replace hb := hb.below
          rw [hrb]
          go_wp2_with fail
          go_ret
          exact ⟨rfl, HW5.out.trans (hb.mono HW5.out.size)⟩
        · have HRA := Lib.hid hra
          have HRB := Lib.hid hrb
          go_wp2_with fail
          refine (stratagemref03_Right.calls ka A c a _ _ HA4.out hca HKA.out).mono ?_
          rintro e w5 ⟨rfl, hb⟩
          replace hb := hb.below
          rw [hra]
          have HX5 := Lib.hid hb
          clear hb
          go_wp2_with fail
          refine (stratagemref03_Right.calls kb B d b _ _ (Kd.C_below HB4.out HX5.out) hcb HKB.out).mono ?_
          rintro e w6 ⟨rfl, hb⟩
          replace hb := hb.below
          rw [hrb]
          have HX6 := Lib.hid (HX5.out.trans (hb.mono HX5.out.size))
          clear hb HX5 hra hrb
          obtain ⟨kfa, hkfa⟩ := fewF a (by omega)
          obtain ⟨kfb, hkfb⟩ := fewF b (by omega)
          have HFA := Lib.hid hkfa
          have HFB := Lib.hid hkfb
          clear hkfa hkfb
          cases hfa : fewB a
          · go_wp2_with fail
            refine (stratagemlaw03_few.calls kfa A c a _ _ (Kd.C_below HA4.out HX6.out) hca HFA.out).mono ?_
            rintro e w7 ⟨rfl, hb⟩
            replace hb := hb.below
            rw [hfa]
            have HX7 := Lib.hid (HX6.out.trans (hb.mono HX6.out.size))
            clear hb
            go_wp2_with fail
            go_ret
            exact ⟨rfl, HW4.out.trans (HX7.out.mono HW4.out.size)⟩
          · cases hfb : fewB b
            · go_wp2_with fail
              refine (stratagemlaw03_few.calls kfa A c a _ _ (Kd.C_below HA4.out HX6.out) hca HFA.out).mono ?_
              rintro e w7 ⟨rfl, hb⟩
              replace hb := hb.below
              rw [hfa]
              have HX7 := Lib.hid (HX6.out.trans (hb.mono HX6.out.size))
              clear hb
              go_wp2_with fail
              refine (stratagemlaw03_few.calls kfb B d b _ _ (Kd.C_below HB4.out HX7.out) hcb HFB.out).mono ?_
              rintro e w8 ⟨rfl, hb⟩
              replace hb := hb.below
              rw [hfb]
              have HX8 := Lib.hid (HX7.out.trans (hb.mono HX7.out.size))
              clear hb
              go_wp2_with fail
              go_ret
              exact ⟨rfl, HW4.out.trans (HX8.out.mono HW4.out.size)⟩
            · have hsa : SM.size (sps a) ≤ 400 := by
                unfold fewB at hfa
                rw [Bool.and_eq_true, decide_eq_true_eq] at hfa
                exact hfa.2
              have hsb : SM.size (sps b) ≤ 400 := by
                unfold fewB at hfb
                rw [Bool.and_eq_true, decide_eq_true_eq] at hfb
                exact hfb.2
              obtain ⟨hva, kva, hkva⟩ := valsF (l := a) (by omega) HRA.out hsa
              obtain ⟨hvb, kvb, hkvb⟩ := valsF (l := b) (by omega) HRB.out hsb
              have HVA := Lib.hid hkva
              have HVB := Lib.hid hkvb
              clear hkva hkvb
              obtain ⟨hr0, hr1, hr2⟩ := HRT.out HRA.out HRB.out
              obtain ⟨ku, hku⟩ := rrightF U hlU
              obtain ⟨km, hkm⟩ := rrightF M hlM
              obtain ⟨kl, hkl⟩ := rrightF L hlL
              rw [hr0] at hku
              rw [hr1] at hkm
              rw [hr2] at hkl
              have HKU := Lib.hid hku
              have HKM := Lib.hid hkm
              have HKL := Lib.hid hkl
              have HR0 := Lib.hid hr0
              have HR1 := Lib.hid hr1
              have HR2 := Lib.hid hr2
              clear hku hkm hkl hr0 hr1 hr2
              go_wp2_with fail
              refine (stratagemlaw03_few.calls kfa A c a _ _ (Kd.C_below HA4.out HX6.out) hca HFA.out).mono ?_
              rintro e w7 ⟨rfl, hb⟩
              replace hb := hb.below
              rw [hfa]
              have HX7 := Lib.hid (HX6.out.trans (hb.mono HX6.out.size))
              clear hb
              go_wp2_with fail
              refine (stratagemlaw03_few.calls kfb B d b _ _ (Kd.C_below HB4.out HX7.out) hcb HFB.out).mono ?_
              rintro e w8 ⟨rfl, hb⟩
              replace hb := hb.below
              rw [hfb]
              have HX8 := Lib.hid (HX7.out.trans (hb.mono HX7.out.size))
              clear hb hfa hfb HX6 HX7
              go_wp2_with fail
              refine (stratagemref03_Right.calls ku UA uc U _ _ (Kd.C_below HU4.out HX8.out) huc HKU.out).mono ?_
              rintro e w9 ⟨rfl, hb⟩
              replace hb := hb.below
              have HX9 := Lib.hid (HX8.out.trans (hb.mono HX8.out.size))
              clear hb
              go_wp2_with fail
              refine (stratagemref03_Right.calls km MA mc M _ _ (Kd.C_below HM4.out HX9.out) hmc HKM.out).mono ?_
              rintro e w10 ⟨rfl, hb⟩
              replace hb := hb.below
              have HX10 := Lib.hid (HX9.out.trans (hb.mono HX9.out.size))
              clear hb
              go_wp2_with fail
              refine (stratagemref03_Right.calls kl LA lc L _ _ (Kd.C_below HL4.out HX10.out) hlc HKL.out).mono ?_
              rintro e w11 ⟨rfl, hb⟩
              replace hb := hb.below
              have HX11 := Lib.hid (HX10.out.trans (hb.mono HX10.out.size))
              clear hb HX8 HX9 HX10
              go_wp2_with fail
              refine (stratagemref03_Values.calls kva A c a _ _ (Kd.C_below HA4.out HX11.out) hca HVA.out).mono ?_
              rintro e w12 ⟨va, rfl, hRa, hb⟩
              have HX12 := Lib.hid (HX11.out.trans (hb.mono HX11.out.size))
              have hba := hb
              have HX11B := HX11
              clear hb
              go_wp2_with fail
              refine (stratagemref03_Values.calls kvb B d b _ _ (Kd.C_below HB4.out HX12.out) hcb HVB.out).mono ?_
              rintro e w13 ⟨vb, rfl, hRb, hb⟩
              have HX13 := Lib.hid (HX12.out.trans (hb.mono HX12.out.size))
              have hRa2 := Kd.R_below hRa hb
              have HV := Lib.hid (hba.trans (hb.mono hba.size))
              clear hb hRa HX11 HX12 hba
              obtain ⟨VA, vac, rfl, hvac, hCa⟩ := Kd.R_reads hRa2
              obtain ⟨VB, vbc, rfl, hvbc, hCb⟩ := Kd.R_reads hRb
              have HRa := Lib.hid hRa2
              have HCb := Lib.hid hCb
              clear hRa2 hCa hRb hCb
              go_wp2_with (at_builtin; refine Kd.R_append_rows (Kd.int .i64) (Rr := fun (x : Int) cs => cs = [Value.int .i64 x]) (w0 := w11) w11.heap.size rfl (.tmp 70) (.tmp 72) 26 3 (.int .i64 0) 8 rfl Try.underlying26 infoInt rfl (by decide) (by decide) _ (valsB a) (valsB b) VB (valsB b).length vbc (fun _ => True) (fun _ => False) rfl rfl HRa.out HCb.out (fun x cs h => h) (fun _ hk => hk.elim) (fun _ _ => trivial) HV.out HV.out.size (by omega) ?_; intro v14 w14 hO1 hB1 hg1 hat1; have hzl : (valsB a ++ valsB b).length ≤ 800 := (by rw [List.length_append]; omega); generalize hzs : valsB a ++ valsB b = zs at hO1 hzl; have HZS := Lib.hid hzs; clear hzs; obtain ⟨ZA, zc, rfl, hzc, hZC⟩ := Kd.R_reads hO1)
              have hXX := HX11B.out.trans (hB1.mono HX11B.out.size)
              have hmem : ∀ v, v ∈ zs → (SM.inB (sps a) v || SM.inB (sps b) v) = true := fun v hv => by
                rw [← HZS.out, List.mem_append, mem_vals, mem_vals] at hv
                rw [Bool.or_eq_true]
                exact hv
              have HMEM := Lib.hid hmem
              have HZ := Lib.hid hZC
              have HXX := Lib.hid hXX
              clear hmem hZC hO1 hB1 hg1 hat1 HRa HCb HV HX13 HX11B HVA HVB HKU HKM HKL hvac hvbc hXX HZS
              go_loopw [75] (fun v75 wr => ∃ j : Nat, j ≤ zs.length ∧ v75 = .int .i64 j ∧ Hid (Below w14.heap.size w14 wr)) (fun v _ => zs.length - (intOf v).toNat)
              case atStart => exact ⟨0, Nat.zero_le _, rfl, Lib.hid (Below.refl _ _)⟩
              case round =>
                obtain ⟨j, hj, rfl, hBr⟩ := hrel
                by_cases hlt : j < zs.length
                · obtain ⟨ad, rfl, hc0⟩ := Kd.at_int (Kd.C_below HZ.out hBr.out) (j : Int) (by omega) (by omega)
                  simp only [Int.toNat_natCast] at hc0
                  have hm := HMEM.out _ (rd_mem zs j hlt)
                  have hi := HIN.out HRA.out HRB.out (rd zs (j : Int))
                  generalize rd zs (j : Int) = v at hc0 hm hi
                  obtain ⟨k1, h1⟩ := inF a v (by omega)
                  obtain ⟨k2, h2⟩ := inF b v (by omega)
                  obtain ⟨k3, h3⟩ := inF U v hlU
                  obtain ⟨k4, h4⟩ := inF M v hlM
                  obtain ⟨k5, h5⟩ := inF L v hlL
                  rw [hi.1] at h3
                  rw [hi.2.1] at h4
                  rw [hi.2.2] at h5
                  have HY := Lib.hid (HXX.out.trans (hBr.out.mono HXX.out.size))
                  clear hi
                  generalize SM.inB (sps a) v = xa at h1 h3 h4 h5 hm
                  generalize SM.inB (sps b) v = xb at h2 h3 h4 h5 hm
                  cases xa <;> cases xb
                  · exact absurd hm (by decide)
                  all_goals
                    have G1 := Lib.hid h1
                    have G2 := Lib.hid h2
                    have G3 := Lib.hid h3
                    have G4 := Lib.hid h4
                    have G5 := Lib.hid h5
                    clear h1 h2 h3 h4 h5 hm
                    go_wp2_with fail
                    refine (stratagemref03_In.calls k1 A c a v _ _ (Kd.C_below HA4.out HY.out) hca G1.out).mono ?_
                    rintro e y1 ⟨rfl, hb⟩
                    replace hb := hb.below
                    have HY1 := Lib.hid (HY.out.trans (hb.mono HY.out.size))
                    have HT1 := Lib.hid (hBr.out.trans (hb.mono hBr.out.size))
                    clear hb
                    go_wp2_with fail
                    refine (stratagemref03_In.calls k2 B d b v _ _ (Kd.C_below HB4.out HY1.out) hcb G2.out).mono ?_
                    rintro e y2 ⟨rfl, hb⟩
                    replace hb := hb.below
                    have HY2 := Lib.hid (HY1.out.trans (hb.mono HY1.out.size))
                    have HT2 := Lib.hid (HT1.out.trans (hb.mono HT1.out.size))
                    clear hb
                    go_wp2_with fail
                    refine (stratagemref03_In.calls k3 UA uc U v _ _ (Kd.C_below HU4.out HY2.out) huc G3.out).mono ?_
                    rintro e y3 ⟨rfl, hb⟩
                    replace hb := hb.below
                    have HY3 := Lib.hid (HY2.out.trans (hb.mono HY2.out.size))
                    have HT3 := Lib.hid (HT2.out.trans (hb.mono HT2.out.size))
                    clear hb
                    go_wp2_with fail
                    refine (stratagemref03_In.calls k4 MA mc M v _ _ (Kd.C_below HM4.out HY3.out) hmc G4.out).mono ?_
                    rintro e y4 ⟨rfl, hb⟩
                    replace hb := hb.below
                    have HY4 := Lib.hid (HY3.out.trans (hb.mono HY3.out.size))
                    have HT4 := Lib.hid (HT3.out.trans (hb.mono HT3.out.size))
                    clear hb
                    go_wp2_with fail
                    refine (stratagemref03_In.calls k5 LA lc L v _ _ (Kd.C_below HL4.out HY4.out) hlc G5.out).mono ?_
                    rintro e y5 ⟨rfl, hb⟩
                    replace hb := hb.below
                    have HT5 := Lib.hid (HT4.out.trans (hb.mono HT4.out.size))
                    clear hb
                    go_wp2_with fail
                    refine ⟨⟨j + 1, by omega, by go_num, Lib.hid HT5.out⟩, ?_⟩
                    simp [intOf]; omega
                · obtain rfl : j = zs.length := by omega
                  have HY := Lib.hid (HXX.out.trans (hBr.out.mono HXX.out.size))
                  obtain ⟨k1, h1⟩ := rsizeF U hlU
                  obtain ⟨k2, h2⟩ := rsizeF a (by omega)
                  obtain ⟨k3, h3⟩ := rsizeF b (by omega)
                  obtain ⟨k4, h4⟩ := rsizeF M hlM
                  obtain ⟨k5, h5⟩ := rsizeF L hlL
                  have hrt := HRT.out HRA.out HRB.out
                  have hsz := HSZ.out HRA.out HRB.out
                  unfold sizeB at h1 h2 h3 h4 h5
                  rw [hrt.1, if_pos rfl] at h1
                  rw [HRA.out, if_pos rfl] at h2
                  rw [HRB.out, if_pos rfl] at h3
                  rw [hrt.2.1, if_pos rfl] at h4
                  rw [hrt.2.2, if_pos rfl] at h5
                  have hn1 := SM.size_nonneg ((rightB_iff _).1 HRA.out)
                  have hn2 := SM.size_nonneg ((rightB_iff _).1 HRB.out)
                  have hn3 := SM.size_nonneg ((rightB_iff _).1 hrt.2.1)
                  have hn4 := SM.size_nonneg ((rightB_iff _).1 hrt.1)
                  have hn5 := SM.size_nonneg ((rightB_iff _).1 hrt.2.2)
                  clear hrt HSZ HIN HNOT
                  generalize SM.size (sps U) = nu at h1 hsz hn4
                  generalize SM.size (sps a) = na at h2 hsz hn1 hsa
                  generalize SM.size (sps b) = nb at h3 hsz hn2 hsb
                  generalize SM.size (sps M) = nm at h4 hsz hn3
                  generalize SM.size (sps L) = nl at h5 hsz hn5
                  have hw1 : wrap64 (na + nb) = na + nb := by unfold wrap64; omega
                  have hw2 : wrap64 (na + nb - nm) = nu := by unfold wrap64; omega
                  have hw3 : wrap64 (na - nm) = nl := by unfold wrap64; omega
                  have G1 := Lib.hid h1
                  have G2 := Lib.hid h2
                  have G3 := Lib.hid h3
                  have G4 := Lib.hid h4
                  have G5 := Lib.hid h5
                  clear h1 h2 h3 h4 h5 hsz hn1 hn2 hn3 hn4 hn5 hsa hsb
                  go_wp2_with fail
                  refine (stratagemref03_Size.calls k1 UA uc U _ _ (Kd.C_below HU4.out HY.out) huc G1.out).mono ?_
                  rintro e z0 ⟨rfl, hb⟩
                  replace hb := hb.below
                  have HYs0 := Lib.hid (HY.out.trans (hb.mono HY.out.size))
                  clear hb
                  go_wp2_with fail
                  refine (stratagemref03_Size.calls k2 A c a _ _ (Kd.C_below HA4.out HYs0.out) hca G2.out).mono ?_
                  rintro e z1 ⟨rfl, hb⟩
                  replace hb := hb.below
                  have HYs1 := Lib.hid (HYs0.out.trans (hb.mono HYs0.out.size))
                  clear hb
                  go_wp2_with fail
                  refine (stratagemref03_Size.calls k3 B d b _ _ (Kd.C_below HB4.out HYs1.out) hcb G3.out).mono ?_
                  rintro e z2 ⟨rfl, hb⟩
                  replace hb := hb.below
                  have HYs2 := Lib.hid (HYs1.out.trans (hb.mono HYs1.out.size))
                  clear hb
                  go_wp2_with fail
                  refine (stratagemref03_Size.calls k4 MA mc M _ _ (Kd.C_below HM4.out HYs2.out) hmc G4.out).mono ?_
                  rintro e z3 ⟨rfl, hb⟩
                  replace hb := hb.below
                  have HYs3 := Lib.hid (HYs2.out.trans (hb.mono HYs2.out.size))
                  clear hb
                  go_wp2_with fail
                  refine (stratagemref03_Size.calls k5 LA lc L _ _ (Kd.C_below HL4.out HYs3.out) hlc G5.out).mono ?_
                  rintro e z4 ⟨rfl, hb⟩
                  replace hb := hb.below
                  have HYs4 := Lib.hid (HYs3.out.trans (hb.mono HYs3.out.size))
                  clear hb
                  go_wp2_with fail
                  refine (stratagemref03_Size.calls k2 A c a _ _ (Kd.C_below HA4.out HYs4.out) hca G2.out).mono ?_
                  rintro e z5 ⟨rfl, hb⟩
                  replace hb := hb.below
                  have HYs5 := Lib.hid (HYs4.out.trans (hb.mono HYs4.out.size))
                  clear hb
                  go_wp2_with fail
                  refine (stratagemref03_Size.calls k4 MA mc M _ _ (Kd.C_below HM4.out HYs5.out) hmc G4.out).mono ?_
                  rintro e z6 ⟨rfl, hb⟩
                  replace hb := hb.below
                  have HYs6 := Lib.hid (HYs5.out.trans (hb.mono HYs5.out.size))
                  clear hb
                  go_wp2_with fail
                  go_ret
                  exact ⟨rfl, HW4.out.trans (HYs6.out.mono HW4.out.size)⟩
end Go.Proofs.Yteachgaabfaanaa
