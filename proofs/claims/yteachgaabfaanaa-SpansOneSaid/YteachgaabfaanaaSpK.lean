/- Spans: awake. -/
import Derived.Test.YteachgaabfaanaaSpJ
namespace Go.Proofs.Yteachgaabfaanaa
open Go.RowKit Go.Proofs.YteachgaabfaanaaW.PrintWords Go.Proofs.YteachgaabfaanaaW.PrintLast Go.Proofs.YteachgaabfaanaaW.PrintMore Go.Proofs.Yteachgaabfaanaa.PRef
set_option linter.unusedVariables false
set_option linter.unusedSimpArgs false

set_option maxHeartbeats 8000000 in
set_option maxRecDepth 100000 in
theorem awake_calls (w : World) : Calls Try.prog 5 #[] w fun e w' => e = .returned (.bool true) ∧ Below w.heap.size w w' := by
  go_enter Try.func5, Try.ntmps5
  go_wp2_with fail
  refine (of_calls (some ⟨w.heap.size, 0, none⟩) 4 [3, 1, 2, 7] _ (int_row w [3, 1, 2, 7] _ rfl (by decide)) (by decide)).mono ?_
  rintro e w1 ⟨hb1, ⟨-, v, rfl, hR⟩ | ⟨hf, -⟩⟩
  rotate_left
  · rw [of_L0.1] at hf
    cases hf
  have hW1 := (below_alloc (Below.refl w.heap.size w) (.cells #[.int .i64 3, .int .i64 1, .int .i64 2, .int .i64 7] 3)).trans (hb1.mono (by simp))
  rw [of_L0.2] at hR
  obtain ⟨LA, lc, rfl, hlc, hLC⟩ := Kd.R_reads hR
  have HL := Lib.hid hLC
  have HW := Lib.hid hW1
  clear hR hLC hW1 hb1
  have hl0 : L0.length ≤ 1000 := by decide
  have hl0' : L0.length ≤ 1000000 := by decide
  go_wp2_with fail
  refine (of_calls (some ⟨w1.heap.size, 0, none⟩) 1 [1048577] _ (int_row w1 [1048577] _ rfl (by decide)) (by decide)).mono ?_
  rintro e w2 ⟨hb2, ⟨hf, -⟩ | ⟨-, rfl⟩⟩
  · exact absurd hf (by decide)
  have hB := (below_alloc (Below.refl w1.heap.size w1) (.cells #[.int .i64 1048577] 3)).trans (hb2.mono (by simp))
  clear hb2
  have HB := Lib.hid hB
  clear hB
  go_wp2_with fail
  refine (spans_At.calls 20 LA lc L0 3 7 true w2 (Kd.C_below HL.out HB.out) hlc at_L3).mono ?_
  rintro e w3 ⟨rfl, hb⟩
  replace HB := Lib.hid (HB.out.trans (hb.mono HB.out.size))
  clear hb
  go_wp2_with fail
  refine (spans_At.calls 20 LA lc L0 4 0 false w3 (Kd.C_below HL.out HB.out) hlc at_L4).mono ?_
  rintro e w4 ⟨rfl, hb⟩
  replace HB := Lib.hid (HB.out.trans (hb.mono HB.out.size))
  clear hb
  go_wp2_with fail
  have HA := Lib.hid (lit_row w4 [⟨1, 3⟩, ⟨7, 7⟩] #[.int .i64 1, .int .i64 3, .int .i64 7, .int .i64 7] rfl _ rfl (by decide))
  have hbl := below_alloc (Below.refl w4.heap.size w4) (.cells #[.int .i64 1, .int .i64 3, .int .i64 7, .int .i64 7] 40)
  replace HB := Lib.hid (HB.out.trans (hbl.mono HB.out.size))
  clear hbl
  obtain ⟨ks, hks⟩ := same_t L0 hl0'
  refine (stratagemref03_Same.calls ks LA lc L0 (some ⟨w4.heap.size, 0, none⟩) 2 L0 true _ (Kd.C_below HL.out HB.out) hlc HA.out (by decide) hks).mono ?_
  rintro e w5 ⟨rfl, hb⟩
  replace hb := hb.below
  replace HB := Lib.hid (HB.out.trans (hb.mono HB.out.size))
  clear hb
  go_wp2_with fail
  obtain ⟨kr, hkr⟩ := rightF L0 hl0'
  refine (spans_Right.calls kr LA lc L0 _ _ (Kd.C_below HL.out HB.out) hlc hkr).mono ?_
  rintro e w6 ⟨rfl, hb⟩
  rw [show rightB L0 = true by decide]
  replace HB := Lib.hid (HB.out.trans (hb.mono HB.out.size))
  clear hb
  go_wp2_with fail
  have HC := Lib.hid (lit_row w6 [⟨1, 2⟩, ⟨3, 3⟩] #[.int .i64 1, .int .i64 2, .int .i64 3, .int .i64 3] rfl _ rfl (by decide))
  have hbl := below_alloc (Below.refl w6.heap.size w6) (.cells #[.int .i64 1, .int .i64 2, .int .i64 3, .int .i64 3] 40)
  replace HB := Lib.hid (HB.out.trans (hbl.mono HB.out.size))
  clear hbl
  obtain ⟨kr2, hkr2⟩ := rightF [⟨1, 2⟩, ⟨3, 3⟩] (by decide)
  refine (spans_Right.calls kr2 (some ⟨w6.heap.size, 0, none⟩) 2 [⟨1, 2⟩, ⟨3, 3⟩] _ _ HC.out (by decide) hkr2).mono ?_
  rintro e w7 ⟨rfl, hb⟩
  rw [show rightB [⟨1, 2⟩, ⟨3, 3⟩] = false by decide]
  replace HB := Lib.hid (HB.out.trans (hb.mono HB.out.size))
  clear hb
  go_wp2_with fail
  obtain ⟨kz, hkz⟩ := sizeF L0 hl0'
  refine (spans_Size.calls kz LA lc L0 _ _ (Kd.C_below HL.out HB.out) hlc hkz).mono ?_
  rintro e w8 ⟨rfl, hb⟩
  rw [show sizeB L0 = 4 by decide]
  replace HB := Lib.hid (HB.out.trans (hb.mono HB.out.size))
  clear hb
  go_wp2_with fail
  refine (has_calls LA lc L0 2 _ (Kd.C_below HL.out HB.out) hlc hl0 (by decide)).mono ?_
  rintro e w9 ⟨rfl, hb⟩
  rw [show hasB L0 2 = true by decide]
  replace HB := Lib.hid (HB.out.trans (hb.mono HB.out.size))
  clear hb
  go_wp2_with fail
  refine (has_calls LA lc L0 4 _ (Kd.C_below HL.out HB.out) hlc hl0 (by decide)).mono ?_
  rintro e w10 ⟨rfl, hb⟩
  rw [show hasB L0 4 = false by decide]
  replace HB := Lib.hid (HB.out.trans (hb.mono HB.out.size))
  clear hb
  go_wp2_with fail
  refine (place_calls LA lc L0 7 _ (Kd.C_below HL.out HB.out) hlc hl0 (by decide)).mono ?_
  rintro e w11 ⟨rfl, hb⟩
  rw [show placeB L0 7 = 3 by decide]
  replace HB := Lib.hid (HB.out.trans (hb.mono HB.out.size))
  clear hb
  go_wp2_with fail
  refine (place_calls LA lc L0 5 _ (Kd.C_below HL.out HB.out) hlc hl0 (by decide)).mono ?_
  rintro e w12 ⟨rfl, hb⟩
  rw [show placeB L0 5 = -1 by decide]
  replace HB := Lib.hid (HB.out.trans (hb.mono HB.out.size))
  clear hb
  go_wp2_with fail
  have HE := Lib.hid (lit_row w12 [⟨1, 9⟩] #[.int .i64 1, .int .i64 9] rfl _ rfl (by decide))
  have hbl := below_alloc (Below.refl w12.heap.size w12) (.cells #[.int .i64 1, .int .i64 9] 40)
  have HF := Lib.hid (lit_row (w12.alloc (.cells #[.int .i64 1, .int .i64 9] 40)) [⟨3, 4⟩] #[.int .i64 3, .int .i64 4] rfl _ rfl (by decide))
  have hbl2 := below_alloc (Below.refl (w12.alloc (.cells #[.int .i64 1, .int .i64 9] 40)).heap.size (w12.alloc (.cells #[.int .i64 1, .int .i64 9] 40))) (.cells #[.int .i64 3, .int .i64 4] 40)
  rw [World.size_alloc] at HF
  have HE2 := Lib.hid (Kd.C_below HE.out hbl2)
  replace HB := Lib.hid ((HB.out.trans (hbl.mono HB.out.size)).trans (hbl2.mono (HB.out.trans (hbl.mono HB.out.size)).size))
  clear hbl hbl2
  refine (less_calls (some ⟨w12.heap.size, 0, none⟩) 1 [⟨1, 9⟩] (some ⟨w12.heap.size + 1, 0, none⟩) 1 [⟨3, 4⟩] _ HE2.out (by decide) HF.out (by decide) (by decide) (by decide)).mono ?_
  rintro e w13 ⟨v, rfl, hR, hb⟩
  rw [less_L] at hR
  obtain ⟨MA, mc, rfl, hmc, hMC⟩ := Kd.R_reads hR
  have HM := Lib.hid hMC
  clear hR hMC
  replace HB := Lib.hid (HB.out.trans (hb.mono HB.out.size))
  clear hb
  go_wp2_with fail
  have HG := Lib.hid (lit_row w13 [⟨1, 2⟩, ⟨5, 9⟩] #[.int .i64 1, .int .i64 2, .int .i64 5, .int .i64 9] rfl _ rfl (by decide))
  have hbl := below_alloc (Below.refl w13.heap.size w13) (.cells #[.int .i64 1, .int .i64 2, .int .i64 5, .int .i64 9] 40)
  have HM2 := Lib.hid (Kd.C_below HM.out hbl)
  replace HB := Lib.hid (HB.out.trans (hbl.mono HB.out.size))
  clear hbl
  obtain ⟨ks2, hks2⟩ := same_t [⟨1, 2⟩, ⟨5, 9⟩] (by decide)
  refine (stratagemref03_Same.calls ks2 MA mc [⟨1, 2⟩, ⟨5, 9⟩] (some ⟨w13.heap.size, 0, none⟩) 2 [⟨1, 2⟩, ⟨5, 9⟩] true _ HM2.out hmc HG.out (by decide) hks2).mono ?_
  rintro e w14 ⟨rfl, hb⟩
  replace hb := hb.below
  replace HB := Lib.hid (HB.out.trans (hb.mono HB.out.size))
  clear hb
  go_wp2_with fail
  have HPu := Lib.hid (lit_row w14 [⟨4, 6⟩] #[.int .i64 4, .int .i64 6] rfl _ rfl (by decide))
  have hbl := below_alloc (Below.refl w14.heap.size w14) (.cells #[.int .i64 4, .int .i64 6] 40)
  replace HB := Lib.hid (HB.out.trans (hbl.mono HB.out.size))
  clear hbl
  refine (union_calls LA lc L0 (some ⟨w14.heap.size, 0, none⟩) 1 [⟨4, 6⟩] _ (Kd.C_below HL.out HB.out) hlc HPu.out (by decide) hl0 (by decide)).mono ?_
  rintro e w15 ⟨v, rfl, hR, hb⟩
  rw [union_L] at hR
  obtain ⟨Mu, mu, rfl, hmu, hMC⟩ := Kd.R_reads hR
  have HMu := Lib.hid hMC
  clear hR hMC
  replace HB := Lib.hid (HB.out.trans (hb.mono HB.out.size))
  clear hb
  go_wp2_with fail
  have HQu := Lib.hid (lit_row w15 [⟨1, 7⟩] #[.int .i64 1, .int .i64 7] rfl _ rfl (by decide))
  have hbl := below_alloc (Below.refl w15.heap.size w15) (.cells #[.int .i64 1, .int .i64 7] 40)
  have HNu := Lib.hid (Kd.C_below HMu.out hbl)
  replace HB := Lib.hid (HB.out.trans (hbl.mono HB.out.size))
  clear hbl
  obtain ⟨ksu, hksu⟩ := same_t [⟨1, 7⟩] (by decide)
  refine (stratagemref03_Same.calls ksu Mu mu [⟨1, 7⟩] (some ⟨w15.heap.size, 0, none⟩) 1 [⟨1, 7⟩] true _ HNu.out hmu HQu.out (by decide) hksu).mono ?_
  rintro e w16 ⟨rfl, hb⟩
  replace hb := hb.below
  replace HB := Lib.hid (HB.out.trans (hb.mono HB.out.size))
  clear hb
  go_wp2_with fail
  have HPm := Lib.hid (lit_row w16 [⟨3, 9⟩] #[.int .i64 3, .int .i64 9] rfl _ rfl (by decide))
  have hbl := below_alloc (Below.refl w16.heap.size w16) (.cells #[.int .i64 3, .int .i64 9] 40)
  replace HB := Lib.hid (HB.out.trans (hbl.mono HB.out.size))
  clear hbl
  refine (meet_calls LA lc L0 (some ⟨w16.heap.size, 0, none⟩) 1 [⟨3, 9⟩] _ (Kd.C_below HL.out HB.out) hlc HPm.out (by decide) hl0 (by decide)).mono ?_
  rintro e w17 ⟨v, rfl, hR, hb⟩
  rw [meet_L] at hR
  obtain ⟨Mm, mm, rfl, hmm, hMC⟩ := Kd.R_reads hR
  have HMm := Lib.hid hMC
  clear hR hMC
  replace HB := Lib.hid (HB.out.trans (hb.mono HB.out.size))
  clear hb
  go_wp2_with fail
  have HQm := Lib.hid (lit_row w17 [⟨3, 3⟩, ⟨7, 7⟩] #[.int .i64 3, .int .i64 3, .int .i64 7, .int .i64 7] rfl _ rfl (by decide))
  have hbl := below_alloc (Below.refl w17.heap.size w17) (.cells #[.int .i64 3, .int .i64 3, .int .i64 7, .int .i64 7] 40)
  have HNm := Lib.hid (Kd.C_below HMm.out hbl)
  replace HB := Lib.hid (HB.out.trans (hbl.mono HB.out.size))
  clear hbl
  obtain ⟨ksm, hksm⟩ := same_t [⟨3, 3⟩, ⟨7, 7⟩] (by decide)
  refine (stratagemref03_Same.calls ksm Mm mm [⟨3, 3⟩, ⟨7, 7⟩] (some ⟨w17.heap.size, 0, none⟩) 2 [⟨3, 3⟩, ⟨7, 7⟩] true _ HNm.out hmm HQm.out (by decide) hksm).mono ?_
  rintro e w18 ⟨rfl, hb⟩
  replace hb := hb.below
  replace HB := Lib.hid (HB.out.trans (hb.mono HB.out.size))
  clear hb
  go_wp2_with fail
  go_ret
  exact ⟨rfl, HW.out.trans (HB.out.mono HW.out.size)⟩
end Go.Proofs.Yteachgaabfaanaa
