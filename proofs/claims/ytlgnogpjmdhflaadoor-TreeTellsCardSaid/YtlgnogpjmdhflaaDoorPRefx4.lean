-- PRINTED BY print.sh 35421559b90ae4d0a3588c463048766b98c2df88dd9212a6774a882060cdf62d: not written by this session
import Derived.Test.YtlgnogpjmdhflaaDoorPRefx0
namespace Go.Proofs.YtlgnogpjmdhflaaDoor.PRef
open Go.RowKit Go.Proofs.YtlgnogpjmdhflaaDoorW.PrintWords Go.Proofs.YtlgnogpjmdhflaaDoorW.PrintLast Go.Proofs.YtlgnogpjmdhflaaDoorW.PrintMore
attribute [local go_sem] max2_int min2_int max_two min_two max_three min_three max_four min_four   -- for this text's walks alone
set_option linter.unusedVariables false
set_option linter.unusedSimpArgs false

/-! ### stratagemref19_Equal: function 16 -/
mutual
def stratagemref19_Equal.l0 : Nat → List (S47) → List (S47) → Int → Option (Bool)
  | 0, _, _, _ => none
  | k + 1, x0, x1, x5 => if x5 < (x0.length : Int) then (if 0 ≤ x5 then (if x5 < (x1.length : Int) then (if ((rd_T47 x0 x5).f0) = ((rd_T47 x1 x5).f0) then (if ((rd_T47 x0 x5).f1) = ((rd_T47 x1 x5).f1) then (stratagemref19_Equal.j1 k x0 x1 x5 ((((rd_T47 x0 x5).f2).length : Int) != (((rd_T47 x1 x5).f2).length : Int))) else (stratagemref19_Equal.j1 k x0 x1 x5 true)) else (stratagemref19_Equal.j1 k x0 x1 x5 true)) else (none)) else (none)) else (some true)
def stratagemref19_Equal.j1 : Nat → List (S47) → List (S47) → Int → Bool → Option (Bool)
  | 0, _, _, _, _ => none
  | k + 1, x0, x1, x5, x56 => if x56 = true then (some false) else (stratagemref19_Equal.l1 k x0 x1 x5 0)
def stratagemref19_Equal.l1 : Nat → List (S47) → List (S47) → Int → Int → Option (Bool)
  | 0, _, _, _, _ => none
  | k + 1, x0, x1, x5, x6 => if 0 ≤ x5 then (if x5 < (x0.length : Int) then (if x6 < (((rd_T47 x0 x5).f2).length : Int) then (if 0 ≤ x6 then (if x5 < (x1.length : Int) then (if x6 < (((rd_T47 x1 x5).f2).length : Int) then (if (rd ((rd_T47 x0 x5).f2) x6) = (rd ((rd_T47 x1 x5).f2) x6) then (stratagemref19_Equal.l1 k x0 x1 x5 (wrap64 (x6 + 1))) else (some false)) else (none)) else (none)) else (none)) else (stratagemref19_Equal.l0 k x0 x1 (wrap64 (x5 + 1)))) else (none)) else (none)
end
def stratagemref19_Equal.f (k : Nat) (l0 : List (S47)) (l1 : List (S47)) : Option (Bool) := if (l0.length : Int) = (l1.length : Int) then (stratagemref19_Equal.l0 k l0 l1 0) else (some false)
theorem stratagemref19_Equal.mono_l : ∀ k, (∀ y0 y1 y2, LeO (stratagemref19_Equal.l0 k y0 y1 y2) (stratagemref19_Equal.l0 (k + 1) y0 y1 y2)) ∧ (∀ y0 y1 y2 y3, LeO (stratagemref19_Equal.j1 k y0 y1 y2 y3) (stratagemref19_Equal.j1 (k + 1) y0 y1 y2 y3)) ∧ (∀ y0 y1 y2 y3, LeO (stratagemref19_Equal.l1 k y0 y1 y2 y3) (stratagemref19_Equal.l1 (k + 1) y0 y1 y2 y3))
  | 0 => ⟨fun _ _ _ r h => by simp [stratagemref19_Equal.l0] at h, fun _ _ _ _ r h => by simp [stratagemref19_Equal.j1] at h, fun _ _ _ _ r h => by simp [stratagemref19_Equal.l1] at h⟩
  | k + 1 => by
    obtain ⟨ih0, ih1, ih2⟩ := stratagemref19_Equal.mono_l k
    refine ⟨?_, ?_, ?_⟩
    · intro y0 y1 y2
      unfold stratagemref19_Equal.l0
      repeat' first
      | (with_reducible exact ih0 _ _ _)
      | (with_reducible exact ih1 _ _ _ _)
      | (with_reducible exact ih2 _ _ _ _)
      | (with_reducible exact LeO.refl _)
      | (with_reducible exact LeO.none _)
      | (with_reducible refine LeO.ite ?_ ?_)
      | (with_reducible refine LeO.bind ?_ (fun _ => ?_))
      | exact ih0 _ _ _
      | exact ih1 _ _ _ _
      | exact ih2 _ _ _ _
      | exact LeO.none _
      | refine LeO.ite ?_ ?_
      | refine LeO.bind ?_ (fun _ => ?_)
    · intro y0 y1 y2 y3
      unfold stratagemref19_Equal.j1
      repeat' first
      | (with_reducible exact ih0 _ _ _)
      | (with_reducible exact ih1 _ _ _ _)
      | (with_reducible exact ih2 _ _ _ _)
      | (with_reducible exact LeO.refl _)
      | (with_reducible exact LeO.none _)
      | (with_reducible refine LeO.ite ?_ ?_)
      | (with_reducible refine LeO.bind ?_ (fun _ => ?_))
      | exact ih0 _ _ _
      | exact ih1 _ _ _ _
      | exact ih2 _ _ _ _
      | exact LeO.none _
      | refine LeO.ite ?_ ?_
      | refine LeO.bind ?_ (fun _ => ?_)
    · intro y0 y1 y2 y3
      unfold stratagemref19_Equal.l1
      repeat' first
      | (with_reducible exact ih0 _ _ _)
      | (with_reducible exact ih1 _ _ _ _)
      | (with_reducible exact ih2 _ _ _ _)
      | (with_reducible exact LeO.refl _)
      | (with_reducible exact LeO.none _)
      | (with_reducible refine LeO.ite ?_ ?_)
      | (with_reducible refine LeO.bind ?_ (fun _ => ?_))
      | exact ih0 _ _ _
      | exact ih1 _ _ _ _
      | exact ih2 _ _ _ _
      | exact LeO.none _
      | refine LeO.ite ?_ ?_
      | refine LeO.bind ?_ (fun _ => ?_)
theorem stratagemref19_Equal.mono : ∀ a0 a1 k, LeO (stratagemref19_Equal.f k a0 a1) (stratagemref19_Equal.f (k + 1) a0 a1) := by
  intro a0 a1 k
  obtain ⟨ih0, ih1, ih2⟩ := stratagemref19_Equal.mono_l k
  unfold stratagemref19_Equal.f
  repeat' first
      | (with_reducible exact ih0 _ _ _)
      | (with_reducible exact ih1 _ _ _ _)
      | (with_reducible exact ih2 _ _ _ _)
      | (with_reducible exact LeO.refl _)
      | (with_reducible exact LeO.none _)
      | (with_reducible refine LeO.ite ?_ ?_)
      | (with_reducible refine LeO.bind ?_ (fun _ => ?_))
      | exact ih0 _ _ _
      | exact ih1 _ _ _ _
      | exact ih2 _ _ _ _
      | exact LeO.none _
      | refine LeO.ite ?_ ?_
      | refine LeO.bind ?_ (fun _ => ?_)
set_option maxHeartbeats 8000000 in
set_option maxRecDepth 100000 in
theorem stratagemref19_Equal.calls (k : Nat) (A0 : Option Addr) (c0 : Nat) (l0 : List (S47)) (A1 : Option Addr) (c1 : Nat) (l1 : List (S47)) (r : Bool) (w : World) (hr0 : Kd.C k47 w A0 l0.length l0) (hc0 : l0.length ≤ c0) (hr1 : Kd.C k47 w A1 l1.length l1) (hc1 : l1.length ≤ c1) (h : stratagemref19_Equal.f k l0 l1 = some r) :
    Calls Tryd.prog 16 #[.slice A0 l0.length c0, .slice A1 l1.length c1] w fun e w' => e = .returned (.bool r) ∧ Drawn0 w w' := by
  have HR0 := Aside0.mk hr0
  have HC0 := Aside0.mk hc0
  clear hr0 hc0
  have HR1 := Aside0.mk hr1
  have HC1 := Aside0.mk hc1
  clear hr1 hc1
  have H : (if (l0.length : Int) = (l1.length : Int) then (stratagemref19_Equal.l0 k l0 l1 0) else (some false)) = some r := h
  clear h
  by_cases c3 : (l0.length : Int) = (l1.length : Int)
  · rw [if_pos c3] at H
    have c3b0 : ((l0.length : Int) == (l1.length : Int)) = true := beq_iff_eq.mpr c3
    have c3b1 : ((l0.length : Int) != (l1.length : Int)) = false := bne_eq_false_iff_eq.mpr c3
    have c3b2 : (l0.length == l1.length) = true := by first | simpa using c3 | (simp at c3 ⊢; omega)
    clear c3
    have H' := Aside0.mk H
    clear H
    go_enter Tryd.func16, Tryd.ntmps16
    go_wp2
    repeat (go_quiet (fail); try go_wp2)
    go_loopg [5] k (fun kq v5 w' => ∃ (x5_1 : Int), v5 = .int .i64 x5_1 ∧ Aside0 (stratagemref19_Equal.l0 kq l0 l1 x5_1 = some r) ∧ Aside0 (kq ≤ k) ∧ Drawn0 w w')
    case atStart => exact ⟨(0), (by first | rfl | (simp; done) | (simp [*]; done)), H', ⟨Nat.le_refl _⟩, by repeat (first | exact Drawn0.refl _ | apply Drawn0.step)⟩
    case round =>
      clear H'
      try clear c1
      try clear p2
      try clear c3
      try clear c3b0
      try clear c3b1
      try clear c3b2
      obtain ⟨x5_1, rfl, HA, HK1, ⟨m1, rfl⟩⟩ := hrel
      cases gk with
      | zero => exact absurd HA.out (by simp [stratagemref19_Equal.l0])
      | succ k1 =>
        have H := HA.out
        clear HA
        simp only [stratagemref19_Equal.l0] at H
        by_cases c4 : x5_1 < (l0.length : Int)
        · rw [if_pos c4] at H
          have c4b0 : decide (x5_1 < (l0.length : Int)) = true := decide_eq_true c4
          clear c4
          have HC5 := Aside0.mk H
          clear H
          go_upto_region 6 with (fail)
          repeat (go_quiet (fail); go_upto_region 6 with (fail))
          go_cut [56] (fun v56 wc => ∃ (kq : Nat) (x56_4 : Bool), v56 = .bool x56_4 ∧ Aside0 (stratagemref19_Equal.j1 kq l0 l1 x5_1 x56_4 = some r) ∧ Aside0 (kq ≤ k1) ∧ Drawn0 w wc)
          case first =>
            have H := HC5.out
            clear HC5
            by_cases c6 : 0 ≤ x5_1
            · rw [if_pos c6] at H
              have c6b0 : decide (0 ≤ x5_1) = true := decide_eq_true c6
              clear c6
              (first | rw [c6b0] | (simp only [i64_w, i32_w]; rw [c6b0]) | skip)
              by_cases c7 : x5_1 < (l1.length : Int)
              · rw [if_pos c7] at H
                have c7b0 : decide (x5_1 < (l1.length : Int)) = true := decide_eq_true c7
                clear c7
                by_cases c8 : ((rd_T47 l0 x5_1).f0) = ((rd_T47 l1 x5_1).f0)
                · rw [if_pos c8] at H
                  have c8b0 : (((rd_T47 l0 x5_1).f0) == ((rd_T47 l1 x5_1).f0)) = true := beq_iff_eq.mpr c8
                  have c8b1 : (((rd_T47 l0 x5_1).f0) != ((rd_T47 l1 x5_1).f0)) = false := bne_eq_false_iff_eq.mpr c8
                  clear c8
                  by_cases c9 : ((rd_T47 l0 x5_1).f1) = ((rd_T47 l1 x5_1).f1)
                  · rw [if_pos c9] at H
                    have c9b0 : (((rd_T47 l0 x5_1).f1) == ((rd_T47 l1 x5_1).f1)) = true := beq_iff_eq.mpr c9
                    have c9b1 : (((rd_T47 l0 x5_1).f1) != ((rd_T47 l1 x5_1).f1)) = false := bne_eq_false_iff_eq.mpr c9
                    clear c9
                    have H' := Aside0.mk H
                    clear H
                    have p160 : 0 ≤ (x5_1 : Int) := of_decide_eq_true (by first | (with_reducible assumption) | assumption)
                    have q160 : x5_1 < (l0.length : Int) := of_decide_eq_true (by first | (with_reducible assumption) | assumption)
                    obtain ⟨ad160, A160_2, c160_2, e160, hx160_0, hx160_1, hx160_2, hl160_2, hi160_2⟩ := at_T47 HR0.out x5_1 p160 q160
                    cases e160
                    have HR160_2 := Aside0.mk hi160_2
                    have HC160_2 := Aside0.mk hl160_2
                    clear hi160_2 hl160_2
                    replace p160 := eq_true p160
                    replace q160 := eq_true q160
                    have p161 : 0 ≤ (x5_1 : Int) := of_decide_eq_true (by first | (with_reducible assumption) | assumption)
                    have q161 : x5_1 < (l1.length : Int) := of_decide_eq_true (by first | (with_reducible assumption) | assumption)
                    obtain ⟨ad161, A161_2, c161_2, e161, hx161_0, hx161_1, hx161_2, hl161_2, hi161_2⟩ := at_T47 HR1.out x5_1 p161 q161
                    cases e161
                    have HR161_2 := Aside0.mk hi161_2
                    have HC161_2 := Aside0.mk hl161_2
                    clear hi161_2 hl161_2
                    replace p161 := eq_true p161
                    replace q161 := eq_true q161
                    have p162 : 0 ≤ (x5_1 : Int) := of_decide_eq_true (by first | (with_reducible assumption) | assumption)
                    have q162 : x5_1 < (l0.length : Int) := of_decide_eq_true (by first | (with_reducible assumption) | assumption)
                    obtain ⟨ad162, A162_2, c162_2, e162, hx162_0, hx162_1, hx162_2, hl162_2, hi162_2⟩ := at_T47 HR0.out x5_1 p162 q162
                    obtain rfl : ad160 = ad162 := (by injection e162)
                    have HR162_2 := Aside0.mk hi162_2
                    have HC162_2 := Aside0.mk hl162_2
                    clear hi162_2 hl162_2
                    replace p162 := eq_true p162
                    replace q162 := eq_true q162
                    have ea_ := Option.some.inj (hx160_2.symm.trans hx162_2)
                    injection ea_ with ea_ en_ ec_
                    subst ea_
                    subst ec_
                    clear en_
                    have p163 : 0 ≤ (x5_1 : Int) := of_decide_eq_true (by first | (with_reducible assumption) | assumption)
                    have q163 : x5_1 < (l1.length : Int) := of_decide_eq_true (by first | (with_reducible assumption) | assumption)
                    obtain ⟨ad163, A163_2, c163_2, e163, hx163_0, hx163_1, hx163_2, hl163_2, hi163_2⟩ := at_T47 HR1.out x5_1 p163 q163
                    obtain rfl : ad161 = ad163 := (by injection e163)
                    have HR163_2 := Aside0.mk hi163_2
                    have HC163_2 := Aside0.mk hl163_2
                    clear hi163_2 hl163_2
                    replace p163 := eq_true p163
                    replace q163 := eq_true q163
                    have ea_ := Option.some.inj (hx161_2.symm.trans hx163_2)
                    injection ea_ with ea_ en_ ec_
                    subst ea_
                    subst ec_
                    clear en_
                    have p164 : 0 ≤ (x5_1 : Int) := of_decide_eq_true (by first | (with_reducible assumption) | assumption)
                    have q164 : x5_1 < (l0.length : Int) := of_decide_eq_true (by first | (with_reducible assumption) | assumption)
                    obtain ⟨ad164, A164_2, c164_2, e164, hx164_0, hx164_1, hx164_2, hl164_2, hi164_2⟩ := at_T47 HR0.out x5_1 p164 q164
                    obtain rfl : ad160 = ad164 := (by injection e164)
                    have HR164_2 := Aside0.mk hi164_2
                    have HC164_2 := Aside0.mk hl164_2
                    clear hi164_2 hl164_2
                    replace p164 := eq_true p164
                    replace q164 := eq_true q164
                    have ea_ := Option.some.inj (hx160_2.symm.trans hx164_2)
                    injection ea_ with ea_ en_ ec_
                    subst ea_
                    subst ec_
                    clear en_
                    have p165 : 0 ≤ (x5_1 : Int) := of_decide_eq_true (by first | (with_reducible assumption) | assumption)
                    have q165 : x5_1 < (l1.length : Int) := of_decide_eq_true (by first | (with_reducible assumption) | assumption)
                    obtain ⟨ad165, A165_2, c165_2, e165, hx165_0, hx165_1, hx165_2, hl165_2, hi165_2⟩ := at_T47 HR1.out x5_1 p165 q165
                    obtain rfl : ad161 = ad165 := (by injection e165)
                    have HR165_2 := Aside0.mk hi165_2
                    have HC165_2 := Aside0.mk hl165_2
                    clear hi165_2 hl165_2
                    replace p165 := eq_true p165
                    replace q165 := eq_true q165
                    have ea_ := Option.some.inj (hx161_2.symm.trans hx165_2)
                    injection ea_ with ea_ en_ ec_
                    subst ea_
                    subst ec_
                    clear en_
                    go_wp2
                    repeat (go_quiet (fail); try go_wp2)
                    go_meet
                    case rel => exact ⟨_, (((((rd_T47 l0 x5_1).f2).length : Int) != (((rd_T47 l1 x5_1).f2).length : Int))), (by first | rfl | (simp; done) | (simp [*]; done)), H', ⟨by have := HK1.out; first | omega | exact Nat.le_refl _⟩, by repeat (first | exact Drawn0.refl _ | apply Drawn0.step)⟩
                  · rw [if_neg c9] at H
                    have c9b0 : (((rd_T47 l0 x5_1).f1) == ((rd_T47 l1 x5_1).f1)) = false := beq_eq_false_iff_ne.mpr c9
                    have c9b1 : (((rd_T47 l0 x5_1).f1) != ((rd_T47 l1 x5_1).f1)) = true := bne_iff_ne.mpr c9
                    have H' := Aside0.mk H
                    clear H
                    have p160 : 0 ≤ (x5_1 : Int) := of_decide_eq_true (by first | (with_reducible assumption) | assumption)
                    have q160 : x5_1 < (l0.length : Int) := of_decide_eq_true (by first | (with_reducible assumption) | assumption)
                    obtain ⟨ad160, A160_2, c160_2, e160, hx160_0, hx160_1, hx160_2, hl160_2, hi160_2⟩ := at_T47 HR0.out x5_1 p160 q160
                    cases e160
                    have HR160_2 := Aside0.mk hi160_2
                    have HC160_2 := Aside0.mk hl160_2
                    clear hi160_2 hl160_2
                    replace p160 := eq_true p160
                    replace q160 := eq_true q160
                    have p161 : 0 ≤ (x5_1 : Int) := of_decide_eq_true (by first | (with_reducible assumption) | assumption)
                    have q161 : x5_1 < (l1.length : Int) := of_decide_eq_true (by first | (with_reducible assumption) | assumption)
                    obtain ⟨ad161, A161_2, c161_2, e161, hx161_0, hx161_1, hx161_2, hl161_2, hi161_2⟩ := at_T47 HR1.out x5_1 p161 q161
                    cases e161
                    have HR161_2 := Aside0.mk hi161_2
                    have HC161_2 := Aside0.mk hl161_2
                    clear hi161_2 hl161_2
                    replace p161 := eq_true p161
                    replace q161 := eq_true q161
                    have p162 : 0 ≤ (x5_1 : Int) := of_decide_eq_true (by first | (with_reducible assumption) | assumption)
                    have q162 : x5_1 < (l0.length : Int) := of_decide_eq_true (by first | (with_reducible assumption) | assumption)
                    obtain ⟨ad162, A162_2, c162_2, e162, hx162_0, hx162_1, hx162_2, hl162_2, hi162_2⟩ := at_T47 HR0.out x5_1 p162 q162
                    obtain rfl : ad160 = ad162 := (by injection e162)
                    have HR162_2 := Aside0.mk hi162_2
                    have HC162_2 := Aside0.mk hl162_2
                    clear hi162_2 hl162_2
                    replace p162 := eq_true p162
                    replace q162 := eq_true q162
                    have ea_ := Option.some.inj (hx160_2.symm.trans hx162_2)
                    injection ea_ with ea_ en_ ec_
                    subst ea_
                    subst ec_
                    clear en_
                    have p163 : 0 ≤ (x5_1 : Int) := of_decide_eq_true (by first | (with_reducible assumption) | assumption)
                    have q163 : x5_1 < (l1.length : Int) := of_decide_eq_true (by first | (with_reducible assumption) | assumption)
                    obtain ⟨ad163, A163_2, c163_2, e163, hx163_0, hx163_1, hx163_2, hl163_2, hi163_2⟩ := at_T47 HR1.out x5_1 p163 q163
                    obtain rfl : ad161 = ad163 := (by injection e163)
                    have HR163_2 := Aside0.mk hi163_2
                    have HC163_2 := Aside0.mk hl163_2
                    clear hi163_2 hl163_2
                    replace p163 := eq_true p163
                    replace q163 := eq_true q163
                    have ea_ := Option.some.inj (hx161_2.symm.trans hx163_2)
                    injection ea_ with ea_ en_ ec_
                    subst ea_
                    subst ec_
                    clear en_
                    go_wp2
                    repeat (go_quiet (fail); try go_wp2)
                    go_meet
                    case rel => exact ⟨_, (true), (by first | rfl | (simp; done) | (simp [*]; done)), H', ⟨by have := HK1.out; first | omega | exact Nat.le_refl _⟩, by repeat (first | exact Drawn0.refl _ | apply Drawn0.step)⟩
                · rw [if_neg c8] at H
                  have c8b0 : (((rd_T47 l0 x5_1).f0) == ((rd_T47 l1 x5_1).f0)) = false := beq_eq_false_iff_ne.mpr c8
                  have c8b1 : (((rd_T47 l0 x5_1).f0) != ((rd_T47 l1 x5_1).f0)) = true := bne_iff_ne.mpr c8
                  have H' := Aside0.mk H
                  clear H
                  have p160 : 0 ≤ (x5_1 : Int) := of_decide_eq_true (by first | (with_reducible assumption) | assumption)
                  have q160 : x5_1 < (l0.length : Int) := of_decide_eq_true (by first | (with_reducible assumption) | assumption)
                  obtain ⟨ad160, A160_2, c160_2, e160, hx160_0, hx160_1, hx160_2, hl160_2, hi160_2⟩ := at_T47 HR0.out x5_1 p160 q160
                  cases e160
                  have HR160_2 := Aside0.mk hi160_2
                  have HC160_2 := Aside0.mk hl160_2
                  clear hi160_2 hl160_2
                  replace p160 := eq_true p160
                  replace q160 := eq_true q160
                  have p161 : 0 ≤ (x5_1 : Int) := of_decide_eq_true (by first | (with_reducible assumption) | assumption)
                  have q161 : x5_1 < (l1.length : Int) := of_decide_eq_true (by first | (with_reducible assumption) | assumption)
                  obtain ⟨ad161, A161_2, c161_2, e161, hx161_0, hx161_1, hx161_2, hl161_2, hi161_2⟩ := at_T47 HR1.out x5_1 p161 q161
                  cases e161
                  have HR161_2 := Aside0.mk hi161_2
                  have HC161_2 := Aside0.mk hl161_2
                  clear hi161_2 hl161_2
                  replace p161 := eq_true p161
                  replace q161 := eq_true q161
                  go_wp2
                  repeat (go_quiet (fail); try go_wp2)
                  go_meet
                  case rel => exact ⟨_, (true), (by first | rfl | (simp; done) | (simp [*]; done)), H', ⟨by have := HK1.out; first | omega | exact Nat.le_refl _⟩, by repeat (first | exact Drawn0.refl _ | apply Drawn0.step)⟩
              · rw [if_neg c7] at H
                exact absurd H (by simp)
            · rw [if_neg c6] at H
              exact absurd H (by simp)
          case rest =>
            clear HC5
            try clear c1
            try clear p1
            try clear q1
            try clear hx1
            try clear p2
            try clear c3
            try clear c3b0
            try clear c3b1
            try clear c3b2
            try clear c4
            try clear c4b0
            try clear c6
            try clear c6b0
            try clear c7
            try clear c7b0
            try clear c8
            try clear c8b0
            try clear c8b1
            try clear c9
            try clear c9b0
            try clear c9b1
            try clear hx160_0
            try clear hx160_1
            try clear hx160_2
            try clear hx161_0
            try clear hx161_1
            try clear hx161_2
            try clear hx162_0
            try clear hx162_1
            try clear hx162_2
            try clear hx163_0
            try clear hx163_1
            try clear hx163_2
            try clear hx164_0
            try clear hx164_1
            try clear hx164_2
            try clear hx165_0
            try clear hx165_1
            try clear hx165_2
            try clear p160
            try clear p161
            try clear p162
            try clear p163
            try clear p164
            try clear p165
            try clear p2
            try clear q160
            try clear q161
            try clear q162
            try clear q163
            try clear q164
            try clear q165
            obtain ⟨kq, x56_4, rfl, HA, HJ4, ⟨mc4, rfl⟩⟩ := hcut
            cases kq with
            | zero => exact absurd HA.out (by simp [stratagemref19_Equal.j1])
            | succ kj4 =>
              have H := HA.out
              clear HA
              simp only [stratagemref19_Equal.j1] at H
              by_cases c10 : x56_4 = true
              · subst c10
                have H1 : (some false) = some r := by rw [if_pos rfl] at H; exact H
                clear H
                have H := H1
                clear H1
                obtain rfl := Option.some.inj H
                go_wp2
                repeat (go_quiet (fail); try go_wp2)
                go_ret
                exact ⟨by first | rfl | (simp; done) | (simp [*]; done), by repeat (first | exact Drawn0.refl _ | apply Drawn0.step)⟩
              · replace c10 := Bool.eq_false_iff.mpr c10
                subst c10
                have H1 : (stratagemref19_Equal.l1 kj4 l0 l1 x5_1 0) = some r := by rw [if_neg (show ¬ (false = true) by decide)] at H; exact H
                clear H
                have H := H1
                clear H1
                have H' := Aside0.mk H
                clear H
                go_wp2
                repeat (go_quiet (fail); try go_wp2)
                go_loopg [6] kj4 (fun kq v6 w' => ∃ (x6_3 : Int), v6 = .int .i64 x6_3 ∧ Aside0 (stratagemref19_Equal.l1 kq l0 l1 x5_1 x6_3 = some r) ∧ Aside0 (kq ≤ kj4) ∧ Drawn0 w w')
                case atStart => exact ⟨(0), (by first | rfl | (simp; done) | (simp [*]; done)), H', ⟨Nat.le_refl _⟩, by repeat (first | exact Drawn0.refl _ | apply Drawn0.step)⟩
                case round =>
                  clear H'
                  try clear c1
                  try clear p1
                  try clear q1
                  try clear hx1
                  try clear p2
                  try clear c3
                  try clear c3b0
                  try clear c3b1
                  try clear c3b2
                  try clear c4
                  try clear c4b0
                  try clear c6
                  try clear c6b0
                  try clear c7
                  try clear c7b0
                  try clear c8
                  try clear c8b0
                  try clear c8b1
                  try clear c9
                  try clear c9b0
                  try clear c9b1
                  try clear c10
                  try clear hx160_0
                  try clear hx160_1
                  try clear hx160_2
                  try clear hx161_0
                  try clear hx161_1
                  try clear hx161_2
                  try clear hx162_0
                  try clear hx162_1
                  try clear hx162_2
                  try clear hx163_0
                  try clear hx163_1
                  try clear hx163_2
                  try clear hx164_0
                  try clear hx164_1
                  try clear hx164_2
                  try clear hx165_0
                  try clear hx165_1
                  try clear hx165_2
                  try clear p1
                  try clear p160
                  try clear p161
                  try clear p162
                  try clear p163
                  try clear p164
                  try clear p165
                  try clear p2
                  try clear q1
                  try clear q160
                  try clear q161
                  try clear q162
                  try clear q163
                  try clear q164
                  try clear q165
                  obtain ⟨x6_3, rfl, HA, HK3, ⟨m3, rfl⟩⟩ := hrel
                  cases gk with
                  | zero => exact absurd HA.out (by simp [stratagemref19_Equal.l1])
                  | succ k3 =>
                    have H := HA.out
                    clear HA
                    simp only [stratagemref19_Equal.l1] at H
                    by_cases c11 : 0 ≤ x5_1
                    · rw [if_pos c11] at H
                      have c11b0 : decide (0 ≤ x5_1) = true := decide_eq_true c11
                      clear c11
                      by_cases c12 : x5_1 < (l0.length : Int)
                      · rw [if_pos c12] at H
                        have c12b0 : decide (x5_1 < (l0.length : Int)) = true := decide_eq_true c12
                        clear c12
                        by_cases c13 : x6_3 < (((rd_T47 l0 x5_1).f2).length : Int)
                        · rw [if_pos c13] at H
                          have c13b0 : decide (x6_3 < (((rd_T47 l0 x5_1).f2).length : Int)) = true := decide_eq_true c13
                          clear c13
                          by_cases c14 : 0 ≤ x6_3
                          · rw [if_pos c14] at H
                            have c14b0 : decide (0 ≤ x6_3) = true := decide_eq_true c14
                            clear c14
                            by_cases c15 : x5_1 < (l1.length : Int)
                            · rw [if_pos c15] at H
                              have c15b0 : decide (x5_1 < (l1.length : Int)) = true := decide_eq_true c15
                              clear c15
                              by_cases c16 : x6_3 < (((rd_T47 l1 x5_1).f2).length : Int)
                              · rw [if_pos c16] at H
                                have c16b0 : decide (x6_3 < (((rd_T47 l1 x5_1).f2).length : Int)) = true := decide_eq_true c16
                                clear c16
                                by_cases c17 : (rd ((rd_T47 l0 x5_1).f2) x6_3) = (rd ((rd_T47 l1 x5_1).f2) x6_3)
                                · rw [if_pos c17] at H
                                  have c17b0 : ((rd ((rd_T47 l0 x5_1).f2) x6_3) == (rd ((rd_T47 l1 x5_1).f2) x6_3)) = true := beq_iff_eq.mpr c17
                                  have c17b1 : ((rd ((rd_T47 l0 x5_1).f2) x6_3) != (rd ((rd_T47 l1 x5_1).f2) x6_3)) = false := bne_eq_false_iff_eq.mpr c17
                                  clear c17
                                  have H' := Aside0.mk H
                                  clear H
                                  have p166 : 0 ≤ (x5_1 : Int) := of_decide_eq_true (by first | (with_reducible assumption) | assumption)
                                  have q166 : x5_1 < (l0.length : Int) := of_decide_eq_true (by first | (with_reducible assumption) | assumption)
                                  obtain ⟨ad166, A166_2, c166_2, e166, hx166_0, hx166_1, hx166_2, hl166_2, hi166_2⟩ := at_T47 HR0.out x5_1 p166 q166
                                  cases e166
                                  have HR166_2 := Aside0.mk hi166_2
                                  have HC166_2 := Aside0.mk hl166_2
                                  clear hi166_2 hl166_2
                                  replace p166 := eq_true p166
                                  replace q166 := eq_true q166
                                  have p167 : 0 ≤ (x5_1 : Int) := of_decide_eq_true (by first | (with_reducible assumption) | assumption)
                                  have q167 : x5_1 < (l0.length : Int) := of_decide_eq_true (by first | (with_reducible assumption) | assumption)
                                  obtain ⟨ad167, A167_2, c167_2, e167, hx167_0, hx167_1, hx167_2, hl167_2, hi167_2⟩ := at_T47 HR0.out x5_1 p167 q167
                                  obtain rfl : ad166 = ad167 := (by injection e167)
                                  have HR167_2 := Aside0.mk hi167_2
                                  have HC167_2 := Aside0.mk hl167_2
                                  clear hi167_2 hl167_2
                                  replace p167 := eq_true p167
                                  replace q167 := eq_true q167
                                  have ea_ := Option.some.inj (hx166_2.symm.trans hx167_2)
                                  injection ea_ with ea_ en_ ec_
                                  subst ea_
                                  subst ec_
                                  clear en_
                                  have p168 : 0 ≤ (x6_3 : Int) := of_decide_eq_true (by first | (with_reducible assumption) | assumption)
                                  have q168 : x6_3 < (((rd_T47 l0 x5_1).f2).length : Int) := of_decide_eq_true (by first | (with_reducible assumption) | assumption)
                                  obtain ⟨ad168, e168, hx168_0⟩ := Kd.at_int HR167_2.out x6_3 p168 q168
                                  cases e168
                                  replace p168 := eq_true p168
                                  replace q168 := eq_true q168
                                  have p169 : 0 ≤ (x5_1 : Int) := of_decide_eq_true (by first | (with_reducible assumption) | assumption)
                                  have q169 : x5_1 < (l1.length : Int) := of_decide_eq_true (by first | (with_reducible assumption) | assumption)
                                  obtain ⟨ad169, A169_2, c169_2, e169, hx169_0, hx169_1, hx169_2, hl169_2, hi169_2⟩ := at_T47 HR1.out x5_1 p169 q169
                                  cases e169
                                  have HR169_2 := Aside0.mk hi169_2
                                  have HC169_2 := Aside0.mk hl169_2
                                  clear hi169_2 hl169_2
                                  replace p169 := eq_true p169
                                  replace q169 := eq_true q169
                                  have p170 : 0 ≤ (x6_3 : Int) := of_decide_eq_true (by first | (with_reducible assumption) | assumption)
                                  have q170 : x6_3 < (((rd_T47 l1 x5_1).f2).length : Int) := of_decide_eq_true (by first | (with_reducible assumption) | assumption)
                                  obtain ⟨ad170, e170, hx170_0⟩ := Kd.at_int HR169_2.out x6_3 p170 q170
                                  cases e170
                                  replace p170 := eq_true p170
                                  replace q170 := eq_true q170
                                  go_wp2
                                  repeat (go_quiet (fail); try go_wp2)
                                  go_roundg k3
                                  case measure => have := HK1.out; have := HJ4.out; have := HK3.out; omega
                                  case rel => exact ⟨(wrap64 (x6_3 + 1)), (by first | rfl | (simp; done) | (simp [*]; done)), H', ⟨by have := HK1.out; have := HJ4.out; have := HK3.out; omega⟩, by repeat (first | exact Drawn0.refl _ | apply Drawn0.step)⟩
                                · rw [if_neg c17] at H
                                  have c17b0 : ((rd ((rd_T47 l0 x5_1).f2) x6_3) == (rd ((rd_T47 l1 x5_1).f2) x6_3)) = false := beq_eq_false_iff_ne.mpr c17
                                  have c17b1 : ((rd ((rd_T47 l0 x5_1).f2) x6_3) != (rd ((rd_T47 l1 x5_1).f2) x6_3)) = true := bne_iff_ne.mpr c17
                                  obtain rfl := Option.some.inj H
                                  have p166 : 0 ≤ (x5_1 : Int) := of_decide_eq_true (by first | (with_reducible assumption) | assumption)
                                  have q166 : x5_1 < (l0.length : Int) := of_decide_eq_true (by first | (with_reducible assumption) | assumption)
                                  obtain ⟨ad166, A166_2, c166_2, e166, hx166_0, hx166_1, hx166_2, hl166_2, hi166_2⟩ := at_T47 HR0.out x5_1 p166 q166
                                  cases e166
                                  have HR166_2 := Aside0.mk hi166_2
                                  have HC166_2 := Aside0.mk hl166_2
                                  clear hi166_2 hl166_2
                                  replace p166 := eq_true p166
                                  replace q166 := eq_true q166
                                  have p167 : 0 ≤ (x5_1 : Int) := of_decide_eq_true (by first | (with_reducible assumption) | assumption)
                                  have q167 : x5_1 < (l0.length : Int) := of_decide_eq_true (by first | (with_reducible assumption) | assumption)
                                  obtain ⟨ad167, A167_2, c167_2, e167, hx167_0, hx167_1, hx167_2, hl167_2, hi167_2⟩ := at_T47 HR0.out x5_1 p167 q167
                                  obtain rfl : ad166 = ad167 := (by injection e167)
                                  have HR167_2 := Aside0.mk hi167_2
                                  have HC167_2 := Aside0.mk hl167_2
                                  clear hi167_2 hl167_2
                                  replace p167 := eq_true p167
                                  replace q167 := eq_true q167
                                  have ea_ := Option.some.inj (hx166_2.symm.trans hx167_2)
                                  injection ea_ with ea_ en_ ec_
                                  subst ea_
                                  subst ec_
                                  clear en_
                                  have p168 : 0 ≤ (x6_3 : Int) := of_decide_eq_true (by first | (with_reducible assumption) | assumption)
                                  have q168 : x6_3 < (((rd_T47 l0 x5_1).f2).length : Int) := of_decide_eq_true (by first | (with_reducible assumption) | assumption)
                                  obtain ⟨ad168, e168, hx168_0⟩ := Kd.at_int HR167_2.out x6_3 p168 q168
                                  cases e168
                                  replace p168 := eq_true p168
                                  replace q168 := eq_true q168
                                  have p169 : 0 ≤ (x5_1 : Int) := of_decide_eq_true (by first | (with_reducible assumption) | assumption)
                                  have q169 : x5_1 < (l1.length : Int) := of_decide_eq_true (by first | (with_reducible assumption) | assumption)
                                  obtain ⟨ad169, A169_2, c169_2, e169, hx169_0, hx169_1, hx169_2, hl169_2, hi169_2⟩ := at_T47 HR1.out x5_1 p169 q169
                                  cases e169
                                  have HR169_2 := Aside0.mk hi169_2
                                  have HC169_2 := Aside0.mk hl169_2
                                  clear hi169_2 hl169_2
                                  replace p169 := eq_true p169
                                  replace q169 := eq_true q169
                                  have p170 : 0 ≤ (x6_3 : Int) := of_decide_eq_true (by first | (with_reducible assumption) | assumption)
                                  have q170 : x6_3 < (((rd_T47 l1 x5_1).f2).length : Int) := of_decide_eq_true (by first | (with_reducible assumption) | assumption)
                                  obtain ⟨ad170, e170, hx170_0⟩ := Kd.at_int HR169_2.out x6_3 p170 q170
                                  cases e170
                                  replace p170 := eq_true p170
                                  replace q170 := eq_true q170
                                  go_wp2
                                  repeat (go_quiet (fail); try go_wp2)
                                  go_ret
                                  exact ⟨by first | rfl | (simp; done) | (simp [*]; done), by repeat (first | exact Drawn0.refl _ | apply Drawn0.step)⟩
                              · rw [if_neg c16] at H
                                exact absurd H (by simp)
                            · rw [if_neg c15] at H
                              exact absurd H (by simp)
                          · rw [if_neg c14] at H
                            exact absurd H (by simp)
                        · rw [if_neg c13] at H
                          have c13b0 : decide (x6_3 < (((rd_T47 l0 x5_1).f2).length : Int)) = false := decide_eq_false c13
                          clear c13
                          have H' := Aside0.mk H
                          clear H
                          have p166 : 0 ≤ (x5_1 : Int) := of_decide_eq_true (by first | (with_reducible assumption) | assumption)
                          have q166 : x5_1 < (l0.length : Int) := of_decide_eq_true (by first | (with_reducible assumption) | assumption)
                          obtain ⟨ad166, A166_2, c166_2, e166, hx166_0, hx166_1, hx166_2, hl166_2, hi166_2⟩ := at_T47 HR0.out x5_1 p166 q166
                          cases e166
                          have HR166_2 := Aside0.mk hi166_2
                          have HC166_2 := Aside0.mk hl166_2
                          clear hi166_2 hl166_2
                          replace p166 := eq_true p166
                          replace q166 := eq_true q166
                          go_wp2
                          repeat (go_quiet (fail); try go_wp2)
                          go_roundg k3
                          case measure => have := HK1.out; have := HJ4.out; have := HK3.out; omega
                          case rel => exact ⟨(wrap64 (x5_1 + 1)), (by first | rfl | (simp; done) | (simp [*]; done)), H', ⟨by have := HK1.out; have := HJ4.out; have := HK3.out; omega⟩, by repeat (first | exact Drawn0.refl _ | apply Drawn0.step)⟩
                      · rw [if_neg c12] at H
                        exact absurd H (by simp)
                    · rw [if_neg c11] at H
                      exact absurd H (by simp)
        · rw [if_neg c4] at H
          have c4b0 : decide (x5_1 < (l0.length : Int)) = false := decide_eq_false c4
          clear c4
          obtain rfl := Option.some.inj H
          go_wp2
          repeat (go_quiet (fail); try go_wp2)
          go_ret
          exact ⟨by first | rfl | (simp; done) | (simp [*]; done), by repeat (first | exact Drawn0.refl _ | apply Drawn0.step)⟩
  · rw [if_neg c3] at H
    have c3b0 : ((l0.length : Int) == (l1.length : Int)) = false := beq_eq_false_iff_ne.mpr c3
    have c3b1 : ((l0.length : Int) != (l1.length : Int)) = true := bne_iff_ne.mpr c3
    have c3b2 : (l0.length == l1.length) = false := by first | simpa using c3 | (simp at c3 ⊢; omega)
    obtain rfl := Option.some.inj H
    go_enter Tryd.func16, Tryd.ntmps16
    go_wp2
    repeat (go_quiet (fail); try go_wp2)
    go_ret
    exact ⟨by first | rfl | (simp; done) | (simp [*]; done), by repeat (first | exact Drawn0.refl _ | apply Drawn0.step)⟩

/-! ### tree_fits: function 23 -/
def tree_fits.f (a0 : Int) (a1 : Int) (a2 : Int) : Option (Bool) := if a0 = 0 then (if a1 = 0 then (some (a2 == 0)) else (some false)) else (if a0 = 1 then (if a1 ≥ 0 then (if a1 ≤ 63 then (some (a2 == 1)) else (some false)) else (some false)) else (if a0 = 2 then (if a1 = 0 then (if a2 ≥ 1 then (some (decide (a2 ≤ 64))) else (some false)) else (some false)) else (some false)))
set_option maxHeartbeats 8000000 in
set_option maxRecDepth 100000 in
theorem tree_fits.calls (a0 : Int) (a1 : Int) (a2 : Int) (r : Bool) (w : World) (h : tree_fits.f a0 a1 a2 = some r) :
    Calls Tryd.prog 23 #[.int .i64 a0, .int .i64 a1, .int .i64 a2] w fun e w' => e = .returned (.bool r) ∧ Drawn0 w w' := by
  have H : (if a0 = 0 then (if a1 = 0 then (some (a2 == 0)) else (some false)) else (if a0 = 1 then (if a1 ≥ 0 then (if a1 ≤ 63 then (some (a2 == 1)) else (some false)) else (some false)) else (if a0 = 2 then (if a1 = 0 then (if a2 ≥ 1 then (some (decide (a2 ≤ 64))) else (some false)) else (some false)) else (some false)))) = some r := h
  clear h
  by_cases c4 : a0 = 0
  · rw [if_pos c4] at H
    have c4b0 : (a0 == 0) = true := beq_iff_eq.mpr c4
    have c4b1 : (a0 != 0) = false := bne_eq_false_iff_eq.mpr c4
    clear c4
    by_cases c5 : a1 = 0
    · rw [if_pos c5] at H
      have c5b0 : (a1 == 0) = true := beq_iff_eq.mpr c5
      have c5b1 : (a1 != 0) = false := bne_eq_false_iff_eq.mpr c5
      clear c5
      obtain rfl := Option.some.inj H
      go_enter Tryd.func23, Tryd.ntmps23
      go_wp2
      go_ret
      exact ⟨by first | rfl | (simp; done) | (simp [*]; done), by repeat (first | exact Drawn0.refl _ | apply Drawn0.step)⟩
    · rw [if_neg c5] at H
      have c5b0 : (a1 == 0) = false := beq_eq_false_iff_ne.mpr c5
      have c5b1 : (a1 != 0) = true := bne_iff_ne.mpr c5
      obtain rfl := Option.some.inj H
      go_enter Tryd.func23, Tryd.ntmps23
      go_wp2
      go_ret
      exact ⟨by first | rfl | (simp; done) | (simp [*]; done), by repeat (first | exact Drawn0.refl _ | apply Drawn0.step)⟩
  · rw [if_neg c4] at H
    have c4b0 : (a0 == 0) = false := beq_eq_false_iff_ne.mpr c4
    have c4b1 : (a0 != 0) = true := bne_iff_ne.mpr c4
    by_cases c6 : a0 = 1
    · rw [if_pos c6] at H
      have c6b0 : (a0 == 1) = true := beq_iff_eq.mpr c6
      have c6b1 : (a0 != 1) = false := bne_eq_false_iff_eq.mpr c6
      clear c6
      by_cases c7 : a1 ≥ 0
      · rw [if_pos c7] at H
        have c7b0 : decide (0 ≤ a1) = true := decide_eq_true c7
        clear c7
        by_cases c8 : a1 ≤ 63
        · rw [if_pos c8] at H
          have c8b0 : decide (a1 ≤ 63) = true := decide_eq_true c8
          clear c8
          obtain rfl := Option.some.inj H
          go_enter Tryd.func23, Tryd.ntmps23
          go_wp2
          go_ret
          exact ⟨by first | rfl | (simp; done) | (simp [*]; done), by repeat (first | exact Drawn0.refl _ | apply Drawn0.step)⟩
        · rw [if_neg c8] at H
          have c8b0 : decide (a1 ≤ 63) = false := decide_eq_false c8
          clear c8
          obtain rfl := Option.some.inj H
          go_enter Tryd.func23, Tryd.ntmps23
          go_wp2
          go_ret
          exact ⟨by first | rfl | (simp; done) | (simp [*]; done), by repeat (first | exact Drawn0.refl _ | apply Drawn0.step)⟩
      · rw [if_neg c7] at H
        have c7b0 : decide (0 ≤ a1) = false := decide_eq_false c7
        clear c7
        obtain rfl := Option.some.inj H
        go_enter Tryd.func23, Tryd.ntmps23
        go_wp2
        go_ret
        exact ⟨by first | rfl | (simp; done) | (simp [*]; done), by repeat (first | exact Drawn0.refl _ | apply Drawn0.step)⟩
    · rw [if_neg c6] at H
      have c6b0 : (a0 == 1) = false := beq_eq_false_iff_ne.mpr c6
      have c6b1 : (a0 != 1) = true := bne_iff_ne.mpr c6
      by_cases c9 : a0 = 2
      · rw [if_pos c9] at H
        have c9b0 : (a0 == 2) = true := beq_iff_eq.mpr c9
        have c9b1 : (a0 != 2) = false := bne_eq_false_iff_eq.mpr c9
        clear c9
        by_cases c10 : a1 = 0
        · rw [if_pos c10] at H
          have c10b0 : (a1 == 0) = true := beq_iff_eq.mpr c10
          have c10b1 : (a1 != 0) = false := bne_eq_false_iff_eq.mpr c10
          clear c10
          by_cases c11 : a2 ≥ 1
          · rw [if_pos c11] at H
            have c11b0 : decide (1 ≤ a2) = true := decide_eq_true c11
            clear c11
            obtain rfl := Option.some.inj H
            go_enter Tryd.func23, Tryd.ntmps23
            go_wp2
            go_ret
            exact ⟨by first | rfl | (simp; done) | (simp [*]; done), by repeat (first | exact Drawn0.refl _ | apply Drawn0.step)⟩
          · rw [if_neg c11] at H
            have c11b0 : decide (1 ≤ a2) = false := decide_eq_false c11
            clear c11
            obtain rfl := Option.some.inj H
            go_enter Tryd.func23, Tryd.ntmps23
            go_wp2
            go_ret
            exact ⟨by first | rfl | (simp; done) | (simp [*]; done), by repeat (first | exact Drawn0.refl _ | apply Drawn0.step)⟩
        · rw [if_neg c10] at H
          have c10b0 : (a1 == 0) = false := beq_eq_false_iff_ne.mpr c10
          have c10b1 : (a1 != 0) = true := bne_iff_ne.mpr c10
          obtain rfl := Option.some.inj H
          go_enter Tryd.func23, Tryd.ntmps23
          go_wp2
          go_ret
          exact ⟨by first | rfl | (simp; done) | (simp [*]; done), by repeat (first | exact Drawn0.refl _ | apply Drawn0.step)⟩
      · rw [if_neg c9] at H
        have c9b0 : (a0 == 2) = false := beq_eq_false_iff_ne.mpr c9
        have c9b1 : (a0 != 2) = true := bne_iff_ne.mpr c9
        obtain rfl := Option.some.inj H
        go_enter Tryd.func23, Tryd.ntmps23
        go_wp2
        go_ret
        exact ⟨by first | rfl | (simp; done) | (simp [*]; done), by repeat (first | exact Drawn0.refl _ | apply Drawn0.step)⟩

/-- THE ONE PURE STATEMENT of tree_fits: yours. -/
def tree_fits.Pure : Prop := ∀ (a0 : Int) (a1 : Int) (a2 : Int), (Lit.int .i64 a0).wf = true → (Lit.int .i64 a1).wf = true → (Lit.int .i64 a2).wf = true → tree_fits.f a0 a1 a2 = some true
theorem tree_fits.walk (P : tree_fits.Pure) (a0 : Int) (a1 : Int) (a2 : Int) (w : World) (w0 : (Lit.int .i64 a0).wf = true) (w1 : (Lit.int .i64 a1).wf = true) (w2 : (Lit.int .i64 a2).wf = true) :
    Calls Tryd.prog 23 #[.int .i64 a0, .int .i64 a1, .int .i64 a2] w fun e w' => e = .returned (.bool true) ∧ Below w.heap.size w w' := by
  have h := P a0 a1 a2 w0 w1 w2
  refine (tree_fits.calls a0 a1 a2 true w h).mono ?_
  rintro e w' ⟨rfl, hd⟩
  exact ⟨rfl, hd.below⟩

end Go.Proofs.YtlgnogpjmdhflaaDoor.PRef
