-- PRINTED BY print.sh 35421559b90ae4d0a3588c463048766b98c2df88dd9212a6774a882060cdf62d: not written by this session
import Derived.Test.YtlgnogpjmdhflaaDoorPRefx0
import Derived.Test.YtlgnogpjmdhflaaDoorPRefx1
namespace Go.Proofs.YtlgnogpjmdhflaaDoor.PRef
open Go.RowKit Go.Proofs.YtlgnogpjmdhflaaDoorW.PrintWords Go.Proofs.YtlgnogpjmdhflaaDoorW.PrintLast Go.Proofs.YtlgnogpjmdhflaaDoorW.PrintMore
attribute [local go_sem] max2_int min2_int max_two min_two max_three min_three max_four min_four   -- for this text's walks alone
set_option linter.unusedVariables false
set_option linter.unusedSimpArgs false

/-! ### stratagemref19_May: function 9 -/
mutual
def stratagemref19_May.l0 : Nat → List (S47) → Int → Option (Bool)
  | 0, _, _ => none
  | k + 1, x0, x3 => if x3 < (x0.length : Int) then (if 0 ≤ x3 then ((stratagemref19_Fits.f ((rd_T47 x0 x3).f0) ((rd_T47 x0 x3).f1) (((rd_T47 x0 x3).f2).length : Int)).bind fun t112 => (if t112 = true then (stratagemref19_May.l1 k x0 x3 0) else (some false))) else (none)) else (if (x0.length : Int) ≥ 1 then (some (decide ((x0.length : Int) ≤ 100000))) else (some false))
def stratagemref19_May.l1 : Nat → List (S47) → Int → Int → Option (Bool)
  | 0, _, _, _ => none
  | k + 1, x0, x3, x4 => if 0 ≤ x3 then (if x3 < (x0.length : Int) then (if x4 < (((rd_T47 x0 x3).f2).length : Int) then (if 0 ≤ x4 then (if (rd ((rd_T47 x0 x3).f2) x4) < 0 then (some false) else (if (rd ((rd_T47 x0 x3).f2) x4) ≥ x3 then (some false) else (stratagemref19_May.l1 k x0 x3 (wrap64 (x4 + 1))))) else (none)) else (stratagemref19_May.l0 k x0 (wrap64 (x3 + 1)))) else (none)) else (none)
end
def stratagemref19_May.f (k : Nat) (l0 : List (S47)) : Option (Bool) := stratagemref19_May.l0 k l0 0
theorem stratagemref19_May.mono_l : ∀ k, (∀ y0 y1, LeO (stratagemref19_May.l0 k y0 y1) (stratagemref19_May.l0 (k + 1) y0 y1)) ∧ (∀ y0 y1 y2, LeO (stratagemref19_May.l1 k y0 y1 y2) (stratagemref19_May.l1 (k + 1) y0 y1 y2))
  | 0 => ⟨fun _ _ r h => by simp [stratagemref19_May.l0] at h, fun _ _ _ r h => by simp [stratagemref19_May.l1] at h⟩
  | k + 1 => by
    obtain ⟨ih0, ih1⟩ := stratagemref19_May.mono_l k
    refine ⟨?_, ?_⟩
    · intro y0 y1
      unfold stratagemref19_May.l0
      repeat' first
      | (with_reducible exact ih0 _ _)
      | (with_reducible exact ih1 _ _ _)
      | (with_reducible exact LeO.refl _)
      | (with_reducible exact LeO.none _)
      | (with_reducible refine LeO.ite ?_ ?_)
      | (with_reducible refine LeO.bind ?_ (fun _ => ?_))
      | exact ih0 _ _
      | exact ih1 _ _ _
      | exact LeO.none _
      | refine LeO.ite ?_ ?_
      | refine LeO.bind ?_ (fun _ => ?_)
    · intro y0 y1 y2
      unfold stratagemref19_May.l1
      repeat' first
      | (with_reducible exact ih0 _ _)
      | (with_reducible exact ih1 _ _ _)
      | (with_reducible exact LeO.refl _)
      | (with_reducible exact LeO.none _)
      | (with_reducible refine LeO.ite ?_ ?_)
      | (with_reducible refine LeO.bind ?_ (fun _ => ?_))
      | exact ih0 _ _
      | exact ih1 _ _ _
      | exact LeO.none _
      | refine LeO.ite ?_ ?_
      | refine LeO.bind ?_ (fun _ => ?_)
theorem stratagemref19_May.mono : ∀ a0 k, LeO (stratagemref19_May.f k a0) (stratagemref19_May.f (k + 1) a0) := by
  intro a0 k
  obtain ⟨ih0, ih1⟩ := stratagemref19_May.mono_l k
  unfold stratagemref19_May.f
  repeat' first
      | (with_reducible exact ih0 _ _)
      | (with_reducible exact ih1 _ _ _)
      | (with_reducible exact LeO.refl _)
      | (with_reducible exact LeO.none _)
      | (with_reducible refine LeO.ite ?_ ?_)
      | (with_reducible refine LeO.bind ?_ (fun _ => ?_))
      | exact ih0 _ _
      | exact ih1 _ _ _
      | exact LeO.none _
      | refine LeO.ite ?_ ?_
      | refine LeO.bind ?_ (fun _ => ?_)
set_option maxHeartbeats 8000000 in
set_option maxRecDepth 100000 in
theorem stratagemref19_May.calls (k : Nat) (A0 : Option Addr) (c0 : Nat) (l0 : List (S47)) (r : Bool) (w : World) (hr0 : Kd.C k47 w A0 l0.length l0) (hc0 : l0.length ≤ c0) (h : stratagemref19_May.f k l0 = some r) :
    Calls Tryd.prog 9 #[.slice A0 l0.length c0] w fun e w' => e = .returned (.bool r) ∧ Drawn0 w w' := by
  have HR0 := Aside0.mk hr0
  have HC0 := Aside0.mk hc0
  clear hr0 hc0
  have H : (stratagemref19_May.l0 k l0 0) = some r := h
  clear h
  have H' := Aside0.mk H
  clear H
  go_enter Tryd.func9, Tryd.ntmps9
  go_wp2
  repeat (go_quiet (fail); try go_wp2)
  go_loopg [3] k (fun kq v3 w' => ∃ (x3_1 : Int), v3 = .int .i64 x3_1 ∧ Aside0 (stratagemref19_May.l0 kq l0 x3_1 = some r) ∧ Aside0 (kq ≤ k) ∧ Drawn0 w w')
  case atStart => exact ⟨(0), (by first | rfl | (simp; done) | (simp [*]; done)), H', ⟨Nat.le_refl _⟩, by repeat (first | exact Drawn0.refl _ | apply Drawn0.step)⟩
  case round =>
    clear H'
    obtain ⟨x3_1, rfl, HA, HK1, ⟨m1, rfl⟩⟩ := hrel
    cases gk with
    | zero => exact absurd HA.out (by simp [stratagemref19_May.l0])
    | succ k1 =>
      have H := HA.out
      clear HA
      simp only [stratagemref19_May.l0] at H
      by_cases c2 : x3_1 < (l0.length : Int)
      · rw [if_pos c2] at H
        have c2b0 : decide (x3_1 < (l0.length : Int)) = true := decide_eq_true c2
        clear c2
        by_cases c3 : 0 ≤ x3_1
        · rw [if_pos c3] at H
          have c3b0 : decide (0 ≤ x3_1) = true := decide_eq_true c3
          clear c3
          replace H := Option.bind_eq_some_iff.mp H
          obtain ⟨t112, A40, H⟩ := H
          replace H : (if t112 = true then (stratagemref19_May.l1 k1 l0 x3_1 0) else (some false)) = some r := H
          have A4 := Aside0.mk A40
          clear A40
          by_cases c5 : t112 = true
          · subst c5
            have H1 : (stratagemref19_May.l1 k1 l0 x3_1 0) = some r := by rw [if_pos rfl] at H; exact H
            clear H
            have H := H1
            clear H1
            have H' := Aside0.mk H
            clear H
            have p109 : 0 ≤ (x3_1 : Int) := of_decide_eq_true (by first | (with_reducible assumption) | assumption)
            have q109 : x3_1 < (l0.length : Int) := of_decide_eq_true (by first | (with_reducible assumption) | assumption)
            obtain ⟨ad109, A109_2, c109_2, e109, hx109_0, hx109_1, hx109_2, hl109_2, hi109_2⟩ := at_T47 HR0.out x3_1 p109 q109
            cases e109
            have HR109_2 := Aside0.mk hi109_2
            have HC109_2 := Aside0.mk hl109_2
            clear hi109_2 hl109_2
            replace p109 := eq_true p109
            replace q109 := eq_true q109
            have p110 : 0 ≤ (x3_1 : Int) := of_decide_eq_true (by first | (with_reducible assumption) | assumption)
            have q110 : x3_1 < (l0.length : Int) := of_decide_eq_true (by first | (with_reducible assumption) | assumption)
            obtain ⟨ad110, A110_2, c110_2, e110, hx110_0, hx110_1, hx110_2, hl110_2, hi110_2⟩ := at_T47 HR0.out x3_1 p110 q110
            obtain rfl : ad109 = ad110 := (by injection e110)
            have HR110_2 := Aside0.mk hi110_2
            have HC110_2 := Aside0.mk hl110_2
            clear hi110_2 hl110_2
            replace p110 := eq_true p110
            replace q110 := eq_true q110
            have ea_ := Option.some.inj (hx109_2.symm.trans hx110_2)
            injection ea_ with ea_ en_ ec_
            subst ea_
            subst ec_
            clear en_
            have p111 : 0 ≤ (x3_1 : Int) := of_decide_eq_true (by first | (with_reducible assumption) | assumption)
            have q111 : x3_1 < (l0.length : Int) := of_decide_eq_true (by first | (with_reducible assumption) | assumption)
            obtain ⟨ad111, A111_2, c111_2, e111, hx111_0, hx111_1, hx111_2, hl111_2, hi111_2⟩ := at_T47 HR0.out x3_1 p111 q111
            obtain rfl : ad109 = ad111 := (by injection e111)
            have HR111_2 := Aside0.mk hi111_2
            have HC111_2 := Aside0.mk hl111_2
            clear hi111_2 hl111_2
            replace p111 := eq_true p111
            replace q111 := eq_true q111
            have ea_ := Option.some.inj (hx109_2.symm.trans hx111_2)
            injection ea_ with ea_ en_ ec_
            subst ea_
            subst ec_
            clear en_
            go_wp2_with (first | (go_at_call 21; (with_reducible refine (stratagemref19_Fits.calls ((rd_T47 l0 x3_1).f0) ((rd_T47 l0 x3_1).f1) (((rd_T47 l0 x3_1).f2).length : Int) true _ A4.out).mono ?_); rintro e w' ⟨rfl, ⟨nd, rfl⟩⟩; (try first | exact ⟨rfl, _, World.drewN_drewN _ _ _⟩ | exact ⟨rfl, _, Eq.trans (World.drewN_drewN _ _ _) (congrArg (World.drewN _) (Nat.add_assoc _ _ _))⟩)))
            repeat (go_quiet (first | (go_at_call 21; (with_reducible refine (stratagemref19_Fits.calls ((rd_T47 l0 x3_1).f0) ((rd_T47 l0 x3_1).f1) (((rd_T47 l0 x3_1).f2).length : Int) true _ A4.out).mono ?_); rintro e w' ⟨rfl, ⟨nd, rfl⟩⟩; (try first | exact ⟨rfl, _, World.drewN_drewN _ _ _⟩ | exact ⟨rfl, _, Eq.trans (World.drewN_drewN _ _ _) (congrArg (World.drewN _) (Nat.add_assoc _ _ _))⟩))); try go_wp2_with (first | (go_at_call 21; (with_reducible refine (stratagemref19_Fits.calls ((rd_T47 l0 x3_1).f0) ((rd_T47 l0 x3_1).f1) (((rd_T47 l0 x3_1).f2).length : Int) true _ A4.out).mono ?_); rintro e w' ⟨rfl, ⟨nd, rfl⟩⟩; (try first | exact ⟨rfl, _, World.drewN_drewN _ _ _⟩ | exact ⟨rfl, _, Eq.trans (World.drewN_drewN _ _ _) (congrArg (World.drewN _) (Nat.add_assoc _ _ _))⟩))))
            go_loopg [4] k1 (fun kq v4 w' => ∃ (x4_2 : Int), v4 = .int .i64 x4_2 ∧ Aside0 (stratagemref19_May.l1 kq l0 x3_1 x4_2 = some r) ∧ Aside0 (kq ≤ k1) ∧ Drawn0 w w')
            case atStart => exact ⟨(0), (by first | rfl | (simp; done) | (simp [*]; done)), H', ⟨Nat.le_refl _⟩, by repeat (first | exact Drawn0.refl _ | apply Drawn0.step)⟩
            case round =>
              clear H'
              try clear c1
              try clear p1
              try clear q1
              try clear hx1
              try clear c2
              try clear c2b0
              try clear p2
              try clear c3
              try clear c3b0
              try clear c5
              try clear hx109_0
              try clear hx109_1
              try clear hx109_2
              try clear hx110_0
              try clear hx110_1
              try clear hx110_2
              try clear hx111_0
              try clear hx111_1
              try clear hx111_2
              try clear p109
              try clear p110
              try clear p111
              try clear q109
              try clear q110
              try clear q111
              obtain ⟨x4_2, rfl, HA, HK2, ⟨m2, rfl⟩⟩ := hrel
              cases gk with
              | zero => exact absurd HA.out (by simp [stratagemref19_May.l1])
              | succ k2 =>
                have H := HA.out
                clear HA
                simp only [stratagemref19_May.l1] at H
                by_cases c6 : 0 ≤ x3_1
                · rw [if_pos c6] at H
                  have c6b0 : decide (0 ≤ x3_1) = true := decide_eq_true c6
                  clear c6
                  by_cases c7 : x3_1 < (l0.length : Int)
                  · rw [if_pos c7] at H
                    have c7b0 : decide (x3_1 < (l0.length : Int)) = true := decide_eq_true c7
                    clear c7
                    by_cases c8 : x4_2 < (((rd_T47 l0 x3_1).f2).length : Int)
                    · rw [if_pos c8] at H
                      have c8b0 : decide (x4_2 < (((rd_T47 l0 x3_1).f2).length : Int)) = true := decide_eq_true c8
                      clear c8
                      by_cases c9 : 0 ≤ x4_2
                      · rw [if_pos c9] at H
                        have c9b0 : decide (0 ≤ x4_2) = true := decide_eq_true c9
                        clear c9
                        by_cases c10 : (rd ((rd_T47 l0 x3_1).f2) x4_2) < 0
                        · rw [if_pos c10] at H
                          have c10b0 : decide ((rd ((rd_T47 l0 x3_1).f2) x4_2) < 0) = true := decide_eq_true c10
                          clear c10
                          obtain rfl := Option.some.inj H
                          have p113 : 0 ≤ (x3_1 : Int) := of_decide_eq_true (by first | (with_reducible assumption) | assumption)
                          have q113 : x3_1 < (l0.length : Int) := of_decide_eq_true (by first | (with_reducible assumption) | assumption)
                          obtain ⟨ad113, A113_2, c113_2, e113, hx113_0, hx113_1, hx113_2, hl113_2, hi113_2⟩ := at_T47 HR0.out x3_1 p113 q113
                          obtain rfl : ad109 = ad113 := (by injection e113)
                          have HR113_2 := Aside0.mk hi113_2
                          have HC113_2 := Aside0.mk hl113_2
                          clear hi113_2 hl113_2
                          replace p113 := eq_true p113
                          replace q113 := eq_true q113
                          have p114 : 0 ≤ (x3_1 : Int) := of_decide_eq_true (by first | (with_reducible assumption) | assumption)
                          have q114 : x3_1 < (l0.length : Int) := of_decide_eq_true (by first | (with_reducible assumption) | assumption)
                          obtain ⟨ad114, A114_2, c114_2, e114, hx114_0, hx114_1, hx114_2, hl114_2, hi114_2⟩ := at_T47 HR0.out x3_1 p114 q114
                          obtain rfl : ad109 = ad114 := (by injection e114)
                          have HR114_2 := Aside0.mk hi114_2
                          have HC114_2 := Aside0.mk hl114_2
                          clear hi114_2 hl114_2
                          replace p114 := eq_true p114
                          replace q114 := eq_true q114
                          have ea_ := Option.some.inj (hx113_2.symm.trans hx114_2)
                          injection ea_ with ea_ en_ ec_
                          subst ea_
                          subst ec_
                          clear en_
                          have p115 : 0 ≤ (x4_2 : Int) := of_decide_eq_true (by first | (with_reducible assumption) | assumption)
                          have q115 : x4_2 < (((rd_T47 l0 x3_1).f2).length : Int) := of_decide_eq_true (by first | (with_reducible assumption) | assumption)
                          obtain ⟨ad115, e115, hx115_0⟩ := Kd.at_int HR114_2.out x4_2 p115 q115
                          cases e115
                          replace p115 := eq_true p115
                          replace q115 := eq_true q115
                          go_wp2
                          repeat (go_quiet (fail); try go_wp2)
                          go_ret
                          exact ⟨by first | rfl | (simp; done) | (simp [*]; done), by repeat (first | exact Drawn0.refl _ | apply Drawn0.step)⟩
                        · rw [if_neg c10] at H
                          have c10b0 : decide ((rd ((rd_T47 l0 x3_1).f2) x4_2) < 0) = false := decide_eq_false c10
                          clear c10
                          by_cases c11 : (rd ((rd_T47 l0 x3_1).f2) x4_2) ≥ x3_1
                          · rw [if_pos c11] at H
                            have c11b0 : decide (x3_1 ≤ (rd ((rd_T47 l0 x3_1).f2) x4_2)) = true := decide_eq_true c11
                            clear c11
                            obtain rfl := Option.some.inj H
                            have p113 : 0 ≤ (x3_1 : Int) := of_decide_eq_true (by first | (with_reducible assumption) | assumption)
                            have q113 : x3_1 < (l0.length : Int) := of_decide_eq_true (by first | (with_reducible assumption) | assumption)
                            obtain ⟨ad113, A113_2, c113_2, e113, hx113_0, hx113_1, hx113_2, hl113_2, hi113_2⟩ := at_T47 HR0.out x3_1 p113 q113
                            obtain rfl : ad109 = ad113 := (by injection e113)
                            have HR113_2 := Aside0.mk hi113_2
                            have HC113_2 := Aside0.mk hl113_2
                            clear hi113_2 hl113_2
                            replace p113 := eq_true p113
                            replace q113 := eq_true q113
                            have p114 : 0 ≤ (x3_1 : Int) := of_decide_eq_true (by first | (with_reducible assumption) | assumption)
                            have q114 : x3_1 < (l0.length : Int) := of_decide_eq_true (by first | (with_reducible assumption) | assumption)
                            obtain ⟨ad114, A114_2, c114_2, e114, hx114_0, hx114_1, hx114_2, hl114_2, hi114_2⟩ := at_T47 HR0.out x3_1 p114 q114
                            obtain rfl : ad109 = ad114 := (by injection e114)
                            have HR114_2 := Aside0.mk hi114_2
                            have HC114_2 := Aside0.mk hl114_2
                            clear hi114_2 hl114_2
                            replace p114 := eq_true p114
                            replace q114 := eq_true q114
                            have ea_ := Option.some.inj (hx113_2.symm.trans hx114_2)
                            injection ea_ with ea_ en_ ec_
                            subst ea_
                            subst ec_
                            clear en_
                            have p115 : 0 ≤ (x4_2 : Int) := of_decide_eq_true (by first | (with_reducible assumption) | assumption)
                            have q115 : x4_2 < (((rd_T47 l0 x3_1).f2).length : Int) := of_decide_eq_true (by first | (with_reducible assumption) | assumption)
                            obtain ⟨ad115, e115, hx115_0⟩ := Kd.at_int HR114_2.out x4_2 p115 q115
                            cases e115
                            replace p115 := eq_true p115
                            replace q115 := eq_true q115
                            have p116 : 0 ≤ (x3_1 : Int) := of_decide_eq_true (by first | (with_reducible assumption) | assumption)
                            have q116 : x3_1 < (l0.length : Int) := of_decide_eq_true (by first | (with_reducible assumption) | assumption)
                            obtain ⟨ad116, A116_2, c116_2, e116, hx116_0, hx116_1, hx116_2, hl116_2, hi116_2⟩ := at_T47 HR0.out x3_1 p116 q116
                            obtain rfl : ad109 = ad116 := (by injection e116)
                            have HR116_2 := Aside0.mk hi116_2
                            have HC116_2 := Aside0.mk hl116_2
                            clear hi116_2 hl116_2
                            replace p116 := eq_true p116
                            replace q116 := eq_true q116
                            have ea_ := Option.some.inj (hx113_2.symm.trans hx116_2)
                            injection ea_ with ea_ en_ ec_
                            subst ea_
                            subst ec_
                            clear en_
                            have p117 : 0 ≤ (x4_2 : Int) := of_decide_eq_true (by first | (with_reducible assumption) | assumption)
                            have q117 : x4_2 < (((rd_T47 l0 x3_1).f2).length : Int) := of_decide_eq_true (by first | (with_reducible assumption) | assumption)
                            obtain ⟨ad117, e117, hx117_0⟩ := Kd.at_int HR116_2.out x4_2 p117 q117
                            cases e117
                            replace p117 := eq_true p117
                            replace q117 := eq_true q117
                            go_wp2
                            repeat (go_quiet (fail); try go_wp2)
                            go_ret
                            exact ⟨by first | rfl | (simp; done) | (simp [*]; done), by repeat (first | exact Drawn0.refl _ | apply Drawn0.step)⟩
                          · rw [if_neg c11] at H
                            have c11b0 : decide (x3_1 ≤ (rd ((rd_T47 l0 x3_1).f2) x4_2)) = false := decide_eq_false c11
                            clear c11
                            have H' := Aside0.mk H
                            clear H
                            have p113 : 0 ≤ (x3_1 : Int) := of_decide_eq_true (by first | (with_reducible assumption) | assumption)
                            have q113 : x3_1 < (l0.length : Int) := of_decide_eq_true (by first | (with_reducible assumption) | assumption)
                            obtain ⟨ad113, A113_2, c113_2, e113, hx113_0, hx113_1, hx113_2, hl113_2, hi113_2⟩ := at_T47 HR0.out x3_1 p113 q113
                            obtain rfl : ad109 = ad113 := (by injection e113)
                            have HR113_2 := Aside0.mk hi113_2
                            have HC113_2 := Aside0.mk hl113_2
                            clear hi113_2 hl113_2
                            replace p113 := eq_true p113
                            replace q113 := eq_true q113
                            have p114 : 0 ≤ (x3_1 : Int) := of_decide_eq_true (by first | (with_reducible assumption) | assumption)
                            have q114 : x3_1 < (l0.length : Int) := of_decide_eq_true (by first | (with_reducible assumption) | assumption)
                            obtain ⟨ad114, A114_2, c114_2, e114, hx114_0, hx114_1, hx114_2, hl114_2, hi114_2⟩ := at_T47 HR0.out x3_1 p114 q114
                            obtain rfl : ad109 = ad114 := (by injection e114)
                            have HR114_2 := Aside0.mk hi114_2
                            have HC114_2 := Aside0.mk hl114_2
                            clear hi114_2 hl114_2
                            replace p114 := eq_true p114
                            replace q114 := eq_true q114
                            have ea_ := Option.some.inj (hx113_2.symm.trans hx114_2)
                            injection ea_ with ea_ en_ ec_
                            subst ea_
                            subst ec_
                            clear en_
                            have p115 : 0 ≤ (x4_2 : Int) := of_decide_eq_true (by first | (with_reducible assumption) | assumption)
                            have q115 : x4_2 < (((rd_T47 l0 x3_1).f2).length : Int) := of_decide_eq_true (by first | (with_reducible assumption) | assumption)
                            obtain ⟨ad115, e115, hx115_0⟩ := Kd.at_int HR114_2.out x4_2 p115 q115
                            cases e115
                            replace p115 := eq_true p115
                            replace q115 := eq_true q115
                            have p116 : 0 ≤ (x3_1 : Int) := of_decide_eq_true (by first | (with_reducible assumption) | assumption)
                            have q116 : x3_1 < (l0.length : Int) := of_decide_eq_true (by first | (with_reducible assumption) | assumption)
                            obtain ⟨ad116, A116_2, c116_2, e116, hx116_0, hx116_1, hx116_2, hl116_2, hi116_2⟩ := at_T47 HR0.out x3_1 p116 q116
                            obtain rfl : ad109 = ad116 := (by injection e116)
                            have HR116_2 := Aside0.mk hi116_2
                            have HC116_2 := Aside0.mk hl116_2
                            clear hi116_2 hl116_2
                            replace p116 := eq_true p116
                            replace q116 := eq_true q116
                            have ea_ := Option.some.inj (hx113_2.symm.trans hx116_2)
                            injection ea_ with ea_ en_ ec_
                            subst ea_
                            subst ec_
                            clear en_
                            have p117 : 0 ≤ (x4_2 : Int) := of_decide_eq_true (by first | (with_reducible assumption) | assumption)
                            have q117 : x4_2 < (((rd_T47 l0 x3_1).f2).length : Int) := of_decide_eq_true (by first | (with_reducible assumption) | assumption)
                            obtain ⟨ad117, e117, hx117_0⟩ := Kd.at_int HR116_2.out x4_2 p117 q117
                            cases e117
                            replace p117 := eq_true p117
                            replace q117 := eq_true q117
                            go_wp2
                            repeat (go_quiet (fail); try go_wp2)
                            go_roundg k2
                            case measure => have := HK1.out; have := HK2.out; omega
                            case rel => exact ⟨(wrap64 (x4_2 + 1)), (by first | rfl | (simp; done) | (simp [*]; done)), H', ⟨by have := HK1.out; have := HK2.out; omega⟩, by repeat (first | exact Drawn0.refl _ | apply Drawn0.step)⟩
                      · rw [if_neg c9] at H
                        exact absurd H (by simp)
                    · rw [if_neg c8] at H
                      have c8b0 : decide (x4_2 < (((rd_T47 l0 x3_1).f2).length : Int)) = false := decide_eq_false c8
                      clear c8
                      have H' := Aside0.mk H
                      clear H
                      have p113 : 0 ≤ (x3_1 : Int) := of_decide_eq_true (by first | (with_reducible assumption) | assumption)
                      have q113 : x3_1 < (l0.length : Int) := of_decide_eq_true (by first | (with_reducible assumption) | assumption)
                      obtain ⟨ad113, A113_2, c113_2, e113, hx113_0, hx113_1, hx113_2, hl113_2, hi113_2⟩ := at_T47 HR0.out x3_1 p113 q113
                      obtain rfl : ad109 = ad113 := (by injection e113)
                      have HR113_2 := Aside0.mk hi113_2
                      have HC113_2 := Aside0.mk hl113_2
                      clear hi113_2 hl113_2
                      replace p113 := eq_true p113
                      replace q113 := eq_true q113
                      go_wp2
                      repeat (go_quiet (fail); try go_wp2)
                      go_roundg k2
                      case measure => have := HK1.out; have := HK2.out; omega
                      case rel => exact ⟨(wrap64 (x3_1 + 1)), (by first | rfl | (simp; done) | (simp [*]; done)), H', ⟨by have := HK1.out; have := HK2.out; omega⟩, by repeat (first | exact Drawn0.refl _ | apply Drawn0.step)⟩
                  · rw [if_neg c7] at H
                    exact absurd H (by simp)
                · rw [if_neg c6] at H
                  exact absurd H (by simp)
          · replace c5 := Bool.eq_false_iff.mpr c5
            subst c5
            have H1 : (some false) = some r := by rw [if_neg (show ¬ (false = true) by decide)] at H; exact H
            clear H
            have H := H1
            clear H1
            obtain rfl := Option.some.inj H
            have p109 : 0 ≤ (x3_1 : Int) := of_decide_eq_true (by first | (with_reducible assumption) | assumption)
            have q109 : x3_1 < (l0.length : Int) := of_decide_eq_true (by first | (with_reducible assumption) | assumption)
            obtain ⟨ad109, A109_2, c109_2, e109, hx109_0, hx109_1, hx109_2, hl109_2, hi109_2⟩ := at_T47 HR0.out x3_1 p109 q109
            cases e109
            have HR109_2 := Aside0.mk hi109_2
            have HC109_2 := Aside0.mk hl109_2
            clear hi109_2 hl109_2
            replace p109 := eq_true p109
            replace q109 := eq_true q109
            have p110 : 0 ≤ (x3_1 : Int) := of_decide_eq_true (by first | (with_reducible assumption) | assumption)
            have q110 : x3_1 < (l0.length : Int) := of_decide_eq_true (by first | (with_reducible assumption) | assumption)
            obtain ⟨ad110, A110_2, c110_2, e110, hx110_0, hx110_1, hx110_2, hl110_2, hi110_2⟩ := at_T47 HR0.out x3_1 p110 q110
            obtain rfl : ad109 = ad110 := (by injection e110)
            have HR110_2 := Aside0.mk hi110_2
            have HC110_2 := Aside0.mk hl110_2
            clear hi110_2 hl110_2
            replace p110 := eq_true p110
            replace q110 := eq_true q110
            have ea_ := Option.some.inj (hx109_2.symm.trans hx110_2)
            injection ea_ with ea_ en_ ec_
            subst ea_
            subst ec_
            clear en_
            have p111 : 0 ≤ (x3_1 : Int) := of_decide_eq_true (by first | (with_reducible assumption) | assumption)
            have q111 : x3_1 < (l0.length : Int) := of_decide_eq_true (by first | (with_reducible assumption) | assumption)
            obtain ⟨ad111, A111_2, c111_2, e111, hx111_0, hx111_1, hx111_2, hl111_2, hi111_2⟩ := at_T47 HR0.out x3_1 p111 q111
            obtain rfl : ad109 = ad111 := (by injection e111)
            have HR111_2 := Aside0.mk hi111_2
            have HC111_2 := Aside0.mk hl111_2
            clear hi111_2 hl111_2
            replace p111 := eq_true p111
            replace q111 := eq_true q111
            have ea_ := Option.some.inj (hx109_2.symm.trans hx111_2)
            injection ea_ with ea_ en_ ec_
            subst ea_
            subst ec_
            clear en_
            go_wp2_with (first | (go_at_call 21; (with_reducible refine (stratagemref19_Fits.calls ((rd_T47 l0 x3_1).f0) ((rd_T47 l0 x3_1).f1) (((rd_T47 l0 x3_1).f2).length : Int) false _ A4.out).mono ?_); rintro e w' ⟨rfl, ⟨nd, rfl⟩⟩; (try first | exact ⟨rfl, _, World.drewN_drewN _ _ _⟩ | exact ⟨rfl, _, Eq.trans (World.drewN_drewN _ _ _) (congrArg (World.drewN _) (Nat.add_assoc _ _ _))⟩)))
            repeat (go_quiet (first | (go_at_call 21; (with_reducible refine (stratagemref19_Fits.calls ((rd_T47 l0 x3_1).f0) ((rd_T47 l0 x3_1).f1) (((rd_T47 l0 x3_1).f2).length : Int) false _ A4.out).mono ?_); rintro e w' ⟨rfl, ⟨nd, rfl⟩⟩; (try first | exact ⟨rfl, _, World.drewN_drewN _ _ _⟩ | exact ⟨rfl, _, Eq.trans (World.drewN_drewN _ _ _) (congrArg (World.drewN _) (Nat.add_assoc _ _ _))⟩))); try go_wp2_with (first | (go_at_call 21; (with_reducible refine (stratagemref19_Fits.calls ((rd_T47 l0 x3_1).f0) ((rd_T47 l0 x3_1).f1) (((rd_T47 l0 x3_1).f2).length : Int) false _ A4.out).mono ?_); rintro e w' ⟨rfl, ⟨nd, rfl⟩⟩; (try first | exact ⟨rfl, _, World.drewN_drewN _ _ _⟩ | exact ⟨rfl, _, Eq.trans (World.drewN_drewN _ _ _) (congrArg (World.drewN _) (Nat.add_assoc _ _ _))⟩))))
            go_ret
            exact ⟨by first | rfl | (simp; done) | (simp [*]; done), by repeat (first | exact Drawn0.refl _ | apply Drawn0.step)⟩
        · rw [if_neg c3] at H
          exact absurd H (by simp)
      · rw [if_neg c2] at H
        have c2b0 : decide (x3_1 < (l0.length : Int)) = false := decide_eq_false c2
        clear c2
        by_cases c12 : (l0.length : Int) ≥ 1
        · rw [if_pos c12] at H
          have c12b0 : decide (1 ≤ (l0.length : Int)) = true := decide_eq_true c12
          have c12b1 : decide (1 ≤ l0.length) = true := decide_eq_true (by omega)
          clear c12
          obtain rfl := Option.some.inj H
          go_wp2
          repeat (go_quiet (fail); try go_wp2)
          go_ret
          exact ⟨by first | rfl | (simp; done) | (simp [*]; done), by repeat (first | exact Drawn0.refl _ | apply Drawn0.step)⟩
        · rw [if_neg c12] at H
          have c12b0 : decide (1 ≤ (l0.length : Int)) = false := decide_eq_false c12
          have c12b1 : decide (1 ≤ l0.length) = false := decide_eq_false (by omega)
          clear c12
          obtain rfl := Option.some.inj H
          go_wp2
          repeat (go_quiet (fail); try go_wp2)
          go_ret
          exact ⟨by first | rfl | (simp; done) | (simp [*]; done), by repeat (first | exact Drawn0.refl _ | apply Drawn0.step)⟩

end Go.Proofs.YtlgnogpjmdhflaaDoor.PRef
