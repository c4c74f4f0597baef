-- PRINTED BY print.sh 35421559b90ae4d0a3588c463048766b98c2df88dd9212a6774a882060cdf62d: not written by this session
import Derived.Test.YtlgnogpjmdhflaaDoorPRefx0
import Derived.Test.YtlgnogpjmdhflaaDoorPRefx1
import Derived.Test.YtlgnogpjmdhflaaDoorPRefx2
namespace Go.Proofs.YtlgnogpjmdhflaaDoor.PRef
open Go.RowKit Go.Proofs.YtlgnogpjmdhflaaDoorW.PrintWords Go.Proofs.YtlgnogpjmdhflaaDoorW.PrintLast Go.Proofs.YtlgnogpjmdhflaaDoorW.PrintMore
attribute [local go_sem] max2_int min2_int max_two min_two max_three min_three max_four min_four   -- for this text's walks alone
set_option linter.unusedVariables false
set_option linter.unusedSimpArgs false

/-! ### stratagemref19_Sizes: function 10 -/
mutual
def stratagemref19_Sizes.l0 : Nat → List (S47) → List Int → List Int → Int → Option (List Int × List Int)
  | 0, _, _, _, _ => none
  | k + 1, x0, x4, x5, x6 => if x6 < (x0.length : Int) then (stratagemref19_Sizes.l1 k x0 x4 x5 x6 1 1 0) else (some (x4, x5))
def stratagemref19_Sizes.l1 : Nat → List (S47) → List Int → List Int → Int → Int → Int → Int → Option (List Int × List Int)
  | 0, _, _, _, _, _, _, _ => none
  | k + 1, x0, x4, x5, x6, x7, x8, x9 => if 0 ≤ x6 then (if x6 < (x0.length : Int) then (if x9 < (((rd_T47 x0 x6).f2).length : Int) then (if 0 ≤ x9 then (if 0 ≤ (rd ((rd_T47 x0 x6).f2) x9) then (if (rd ((rd_T47 x0 x6).f2) x9) < (x4.length : Int) then (if (rd x4 (rd ((rd_T47 x0 x6).f2) x9)) > (wrap64 (9223372036854775807 - x7)) then (if (rd ((rd_T47 x0 x6).f2) x9) < (x5.length : Int) then (if (wrap64 ((rd x5 (rd ((rd_T47 x0 x6).f2) x9)) + 1)) > x8 then (stratagemref19_Sizes.l1 k x0 x4 x5 x6 9223372036854775807 (wrap64 ((rd x5 (rd ((rd_T47 x0 x6).f2) x9)) + 1)) (wrap64 (x9 + 1))) else (stratagemref19_Sizes.l1 k x0 x4 x5 x6 9223372036854775807 x8 (wrap64 (x9 + 1)))) else (none)) else (if (rd ((rd_T47 x0 x6).f2) x9) < (x5.length : Int) then (if (wrap64 ((rd x5 (rd ((rd_T47 x0 x6).f2) x9)) + 1)) > x8 then (stratagemref19_Sizes.l1 k x0 x4 x5 x6 (wrap64 (x7 + (rd x4 (rd ((rd_T47 x0 x6).f2) x9)))) (wrap64 ((rd x5 (rd ((rd_T47 x0 x6).f2) x9)) + 1)) (wrap64 (x9 + 1))) else (stratagemref19_Sizes.l1 k x0 x4 x5 x6 (wrap64 (x7 + (rd x4 (rd ((rd_T47 x0 x6).f2) x9)))) x8 (wrap64 (x9 + 1)))) else (none))) else (none)) else (none)) else (none)) else (if x4.length < 17592186044416 then (if x5.length < 17592186044416 then (stratagemref19_Sizes.l0 k x0 (x4 ++ [x7]) (x5 ++ [x8]) (wrap64 (x6 + 1))) else (none)) else (none))) else (none)) else (none)
end
def stratagemref19_Sizes.f (k : Nat) (l0 : List (S47)) : Option (List Int × List Int) := stratagemref19_Sizes.l0 k l0 (([] : List Int)) (([] : List Int)) 0
theorem stratagemref19_Sizes.mono_l : ∀ k, (∀ y0 y1 y2 y3, LeO (stratagemref19_Sizes.l0 k y0 y1 y2 y3) (stratagemref19_Sizes.l0 (k + 1) y0 y1 y2 y3)) ∧ (∀ y0 y1 y2 y3 y4 y5 y6, LeO (stratagemref19_Sizes.l1 k y0 y1 y2 y3 y4 y5 y6) (stratagemref19_Sizes.l1 (k + 1) y0 y1 y2 y3 y4 y5 y6))
  | 0 => ⟨fun _ _ _ _ r h => by simp [stratagemref19_Sizes.l0] at h, fun _ _ _ _ _ _ _ r h => by simp [stratagemref19_Sizes.l1] at h⟩
  | k + 1 => by
    obtain ⟨ih0, ih1⟩ := stratagemref19_Sizes.mono_l k
    refine ⟨?_, ?_⟩
    · intro y0 y1 y2 y3
      unfold stratagemref19_Sizes.l0
      repeat' first
      | (with_reducible exact ih0 _ _ _ _)
      | (with_reducible exact ih1 _ _ _ _ _ _ _)
      | (with_reducible exact LeO.refl _)
      | (with_reducible exact LeO.none _)
      | (with_reducible refine LeO.ite ?_ ?_)
      | (with_reducible refine LeO.bind ?_ (fun _ => ?_))
      | exact ih0 _ _ _ _
      | exact ih1 _ _ _ _ _ _ _
      | exact LeO.none _
      | refine LeO.ite ?_ ?_
      | refine LeO.bind ?_ (fun _ => ?_)
    · intro y0 y1 y2 y3 y4 y5 y6
      unfold stratagemref19_Sizes.l1
      repeat' first
      | (with_reducible exact ih0 _ _ _ _)
      | (with_reducible exact ih1 _ _ _ _ _ _ _)
      | (with_reducible exact LeO.refl _)
      | (with_reducible exact LeO.none _)
      | (with_reducible refine LeO.ite ?_ ?_)
      | (with_reducible refine LeO.bind ?_ (fun _ => ?_))
      | exact ih0 _ _ _ _
      | exact ih1 _ _ _ _ _ _ _
      | exact LeO.none _
      | refine LeO.ite ?_ ?_
      | refine LeO.bind ?_ (fun _ => ?_)
theorem stratagemref19_Sizes.mono : ∀ a0 k, LeO (stratagemref19_Sizes.f k a0) (stratagemref19_Sizes.f (k + 1) a0) := by
  intro a0 k
  obtain ⟨ih0, ih1⟩ := stratagemref19_Sizes.mono_l k
  unfold stratagemref19_Sizes.f
  repeat' first
      | (with_reducible exact ih0 _ _ _ _)
      | (with_reducible exact ih1 _ _ _ _ _ _ _)
      | (with_reducible exact LeO.refl _)
      | (with_reducible exact LeO.none _)
      | (with_reducible refine LeO.ite ?_ ?_)
      | (with_reducible refine LeO.bind ?_ (fun _ => ?_))
      | exact ih0 _ _ _ _
      | exact ih1 _ _ _ _ _ _ _
      | exact LeO.none _
      | refine LeO.ite ?_ ?_
      | refine LeO.bind ?_ (fun _ => ?_)
set_option maxHeartbeats 8000000 in
set_option maxRecDepth 100000 in
theorem stratagemref19_Sizes.calls (k : Nat) (A0 : Option Addr) (c0 : Nat) (l0 : List (S47)) (r1 : List Int) (r2 : List Int) (w : World) (hr0 : Kd.C k47 w A0 l0.length l0) (hc0 : l0.length ≤ c0) (h : stratagemref19_Sizes.f k l0 = some (r1, r2)) :
    Calls Tryd.prog 10 #[.slice A0 l0.length c0] w fun e w' => ∃ v0_ v1_ : Value, e = .returned (.tuple #[v0_, v1_]) ∧ Kd.R (Kd.int .i64) 3 w' w.heap.size (fun k_ => some k_ ≠ (v1_ : Value).ownBlock) v0_ r1 ∧ Kd.R (Kd.int .i64) 3 w' w.heap.size (fun k_ => some k_ ≠ (v0_ : Value).ownBlock) v1_ r2 ∧ Below w.heap.size w w' := by
  have HR0 := Aside0.mk hr0
  have HC0 := Aside0.mk hc0
  clear hr0 hc0
  have HB := Aside0.mk (Below.refl w.heap.size w)
  have H : (stratagemref19_Sizes.l0 k l0 (([] : List Int)) (([] : List Int)) 0) = some (r1, r2) := h
  clear h
  obtain ⟨y118, hy118⟩ : ∃ y_ : List Int, y_ = (([] : List Int)) := ⟨_, rfl⟩
  replace H : (stratagemref19_Sizes.l0 k l0 y118 (([] : List Int)) 0) = some (r1, r2) := by first | (rw [hy118]; with_reducible exact H) | (have H2_ := (Option.bind_some _ _).symm.trans H; rw [hy118]; with_reducible exact H2_) | (have H2_ := (Option.bind_some _ _).symm.trans H; with_reducible exact H2_) | with_reducible exact H | (rw [hy118]; exact H) | exact H
  have Ny118 := Aside0.mk hy118
  clear hy118
  obtain ⟨y121, hy121⟩ : ∃ y_ : List Int, y_ = (([] : List Int)) := ⟨_, rfl⟩
  replace H : (stratagemref19_Sizes.l0 k l0 y118 y121 0) = some (r1, r2) := by first | (rw [hy121]; with_reducible exact H) | (have H2_ := (Option.bind_some _ _).symm.trans H; rw [hy121]; with_reducible exact H2_) | (have H2_ := (Option.bind_some _ _).symm.trans H; with_reducible exact H2_) | with_reducible exact H | (rw [hy121]; exact H) | exact H
  have Ny121 := Aside0.mk hy121
  clear hy121
  have H' := Aside0.mk H
  clear H
  go_enter Tryd.func10, Tryd.ntmps10
  go_wp2_with (first | ((with_reducible refine gate_dst (N := 11) rfl ?_); refine Kd.R_lit (Kd.int .i64) _ 3 ?hg (N := 11) ?hd (xs := ([] : List Int)) (inner := []) (ok := fun _ => True) (okp := fun _ => True) ?hr ?hp (fun _ hk => hk) trivial (Below.refl _ _) (Nat.le_refl _) (by simp) ?_; (case hd => rfl); (case hg => rfl); (case hr => first | (go_simp; done) | (go_simp; rfl)); (case hp => exact (Reps.none _ _)); intro v119 w2 ho3 hb hg_ hnew_; clear hg_ hnew_; (first | rw [← Ny118.out] at ho3 | (simp only [Int.reduceToNat] at ho3; rw [← Ny118.out] at ho3)); have n0_ := Aside0.mk (Kd.R_lower ho3 (below_size (by repeat (first | (with_reducible first | exact HB.out | apply below_alloc | apply pw_below_drewN | apply below_drew1) | exact HB.out)))); have n1_ := Aside0.mk (below_step (by repeat (first | (with_reducible first | exact HB.out | apply below_alloc | apply pw_below_drewN | apply below_drew1) | exact HB.out)) hb); clear HB; have HO120 := n0_; have HB := n1_; clear n0_ n1_; clear hb ho3) | ((with_reducible refine gate_dst (N := 12) rfl ?_); refine Kd.R_lit (Kd.int .i64) _ 3 ?hg (N := 12) ?hd (xs := ([] : List Int)) (inner := []) (ok := fun _ => True) (okp := fun _ => True) ?hr ?hp (fun _ hk => hk) trivial (Below.refl _ _) (Nat.le_refl _) (by simp) ?_; (case hd => rfl); (case hg => rfl); (case hr => first | (go_simp; done) | (go_simp; rfl)); (case hp => exact (Reps.none _ _)); intro v122 w4 ho5 hb hg_ hnew_; clear hg_ hnew_; (first | rw [← Ny121.out] at ho5 | (simp only [Int.reduceToNat] at ho5; rw [← Ny121.out] at ho5)); have n0_ := Aside0.mk (Kd.R_elder' (by (with_reducible repeat (first | apply Kd.R_alloc | apply Kd.R_drewN | apply Kd.R_drew)); exact HO120.out) (Kd.R_base ho5) hb); have n1_ := Aside0.mk (Kd.R_lower (Kd.R_new' ho5 (Kd.R_lt (by (with_reducible repeat (first | apply Kd.R_alloc | apply Kd.R_drewN | apply Kd.R_drew)); exact HO120.out))) (below_size (by repeat (first | (with_reducible first | exact HB.out | apply below_alloc | apply pw_below_drewN | apply below_drew1) | exact HB.out)))); have n2_ := Aside0.mk (below_step (by repeat (first | (with_reducible first | exact HB.out | apply below_alloc | apply pw_below_drewN | apply below_drew1) | exact HB.out)) hb); clear HO120; clear HB; have HO120 := n0_; have HO123 := n1_; have HB := n2_; clear n0_ n1_ n2_; clear hb ho5))
  go_loopg [4, 5, 6] k (fun kq v4 v5 v6 w' => ∃ (x4_1 : List Int) (x5_1 : List Int) (x6_1 : Int), v6 = .int .i64 x6_1 ∧ Aside0 (stratagemref19_Sizes.l0 kq l0 x4_1 x5_1 x6_1 = some (r1, r2)) ∧ Aside0 (kq ≤ k) ∧ Aside0 (Kd.R (Kd.int .i64) 3 w' w.heap.size (fun k_ => some k_ ≠ (v5 : Value).ownBlock) v4 x4_1) ∧ Aside0 (Kd.R (Kd.int .i64) 3 w' w.heap.size (fun k_ => some k_ ≠ (v4 : Value).ownBlock) v5 x5_1) ∧ Aside0 (Below w.heap.size w w'))
  case atStart => exact ⟨(y118), (y121), (0), (by first | rfl | (simp; done) | (simp [*]; done)), H', ⟨Nat.le_refl _⟩, ⟨by (with_reducible repeat (first | apply Kd.R_alloc | apply Kd.R_drewN | apply Kd.R_drew)); exact Kd.R_mono HO120.out (fun _ hk => hk.2)⟩, ⟨by (with_reducible repeat (first | apply Kd.R_alloc | apply Kd.R_drewN | apply Kd.R_drew)); exact Kd.R_mono HO123.out (fun _ hk => hk.2)⟩, ⟨by repeat (first | (with_reducible first | exact HB.out | apply below_alloc | apply pw_below_drewN | apply below_drew1) | exact HB.out)⟩⟩
  case round =>
    clear H'
    try clear c1
    try clear p2
    obtain ⟨x4_1, x5_1, x6_1, rfl, HA, HK1, HO_4, HO_5, HB⟩ := hrel
    cases gk with
    | zero => exact absurd HA.out (by simp [stratagemref19_Sizes.l0])
    | succ k1 =>
      have H := HA.out
      clear HA
      simp only [stratagemref19_Sizes.l0] at H
      by_cases c6 : x6_1 < (l0.length : Int)
      · rw [if_pos c6] at H
        have c6b0 : decide (x6_1 < (l0.length : Int)) = true := decide_eq_true c6
        clear c6
        have H' := Aside0.mk H
        clear H
        go_wp2
        go_loopg [7, 8, 9] k1 (fun kq v7 v8 v9 w' => ∃ (x7_2 : Int) (x8_2 : Int) (x9_2 : Int), v7 = .int .i64 x7_2 ∧ v8 = .int .i64 x8_2 ∧ v9 = .int .i64 x9_2 ∧ Aside0 (stratagemref19_Sizes.l1 kq l0 x4_1 x5_1 x6_1 x7_2 x8_2 x9_2 = some (r1, r2)) ∧ Aside0 (kq ≤ k1) ∧ Aside0 (Kd.R (Kd.int .i64) 3 w' w.heap.size (fun k_ => some k_ ≠ (u5 : Value).ownBlock) u4 x4_1) ∧ Aside0 (Kd.R (Kd.int .i64) 3 w' w.heap.size (fun k_ => some k_ ≠ (u4 : Value).ownBlock) u5 x5_1) ∧ Aside0 (Below w.heap.size w w'))
        case atStart => exact ⟨(1), (1), (0), (by first | rfl | (simp; done) | (simp [*]; done)), (by first | rfl | (simp; done) | (simp [*]; done)), (by first | rfl | (simp; done) | (simp [*]; done)), H', ⟨Nat.le_refl _⟩, ⟨by (with_reducible repeat (first | apply Kd.R_alloc | apply Kd.R_drewN | apply Kd.R_drew)); exact HO_4.out⟩, ⟨by (with_reducible repeat (first | apply Kd.R_alloc | apply Kd.R_drewN | apply Kd.R_drew)); exact HO_5.out⟩, ⟨by repeat (first | (with_reducible first | exact HB.out | apply below_alloc | apply pw_below_drewN | apply below_drew1) | exact HB.out)⟩⟩
        case round =>
          clear H'
          try clear c1
          try clear p2
          try clear c6
          try clear c6b0
          try clear p2
          obtain ⟨x7_2, x8_2, x9_2, rfl, rfl, rfl, HA, HK2, HO_4, HO_5, HB⟩ := hrel
          cases gk with
          | zero => exact absurd HA.out (by simp [stratagemref19_Sizes.l1])
          | succ k2 =>
            have H := HA.out
            clear HA
            simp only [stratagemref19_Sizes.l1] at H
            by_cases c7 : 0 ≤ x6_1
            · rw [if_pos c7] at H
              have c7b0 : decide (0 ≤ x6_1) = true := decide_eq_true c7
              clear c7
              by_cases c8 : x6_1 < (l0.length : Int)
              · rw [if_pos c8] at H
                have c8b0 : decide (x6_1 < (l0.length : Int)) = true := decide_eq_true c8
                clear c8
                by_cases c9 : x9_2 < (((rd_T47 l0 x6_1).f2).length : Int)
                · rw [if_pos c9] at H
                  have c9b0 : decide (x9_2 < (((rd_T47 l0 x6_1).f2).length : Int)) = true := decide_eq_true c9
                  clear c9
                  by_cases c10 : 0 ≤ x9_2
                  · rw [if_pos c10] at H
                    have c10b0 : decide (0 ≤ x9_2) = true := decide_eq_true c10
                    clear c10
                    by_cases c11 : 0 ≤ (rd ((rd_T47 l0 x6_1).f2) x9_2)
                    · rw [if_pos c11] at H
                      have c11b0 : decide (0 ≤ (rd ((rd_T47 l0 x6_1).f2) x9_2)) = true := decide_eq_true c11
                      clear c11
                      by_cases c12 : (rd ((rd_T47 l0 x6_1).f2) x9_2) < (x4_1.length : Int)
                      · rw [if_pos c12] at H
                        have c12b0 : decide ((rd ((rd_T47 l0 x6_1).f2) x9_2) < (x4_1.length : Int)) = true := decide_eq_true c12
                        clear c12
                        by_cases c13 : (rd x4_1 (rd ((rd_T47 l0 x6_1).f2) x9_2)) > (wrap64 (9223372036854775807 - x7_2))
                        · rw [if_pos c13] at H
                          have c13b0 : decide ((wrap64 (9223372036854775807 - x7_2)) < (rd x4_1 (rd ((rd_T47 l0 x6_1).f2) x9_2))) = true := decide_eq_true c13
                          clear c13
                          by_cases c14 : (rd ((rd_T47 l0 x6_1).f2) x9_2) < (x5_1.length : Int)
                          · rw [if_pos c14] at H
                            have c14b0 : decide ((rd ((rd_T47 l0 x6_1).f2) x9_2) < (x5_1.length : Int)) = true := decide_eq_true c14
                            clear c14
                            by_cases c15 : (wrap64 ((rd x5_1 (rd ((rd_T47 l0 x6_1).f2) x9_2)) + 1)) > x8_2
                            · rw [if_pos c15] at H
                              have c15b0 : decide (x8_2 < (wrap64 ((rd x5_1 (rd ((rd_T47 l0 x6_1).f2) x9_2)) + 1))) = true := decide_eq_true c15
                              clear c15
                              have H' := Aside0.mk H
                              clear H
                              have p124 : 0 ≤ (x6_1 : Int) := of_decide_eq_true (by first | (with_reducible assumption) | assumption)
                              have q124 : x6_1 < (l0.length : Int) := of_decide_eq_true (by first | (with_reducible assumption) | assumption)
                              obtain ⟨ad124, A124_2, c124_2, e124, hx124_0, hx124_1, hx124_2, hl124_2, hi124_2⟩ := at_T47 HR0.out x6_1 p124 q124
                              cases e124
                              replace hx124_0 := (HB.out.cell (World.block_lt_of_cell? w _ hx124_0)).trans hx124_0
                              replace hx124_1 := (HB.out.cell (World.block_lt_of_cell? w _ hx124_1)).trans hx124_1
                              replace hx124_2 := (HB.out.cell (World.block_lt_of_cell? w _ hx124_2)).trans hx124_2
                              have HR124_2 := Aside0.mk hi124_2
                              have HC124_2 := Aside0.mk hl124_2
                              clear hi124_2 hl124_2
                              replace p124 := eq_true p124
                              replace q124 := eq_true q124
                              have p131 : 0 ≤ (x6_1 : Int) := of_decide_eq_true (by first | (with_reducible assumption) | assumption)
                              have q131 : x6_1 < (l0.length : Int) := of_decide_eq_true (by first | (with_reducible assumption) | assumption)
                              obtain ⟨ad131, A131_2, c131_2, e131, hx131_0, hx131_1, hx131_2, hl131_2, hi131_2⟩ := at_T47 HR0.out x6_1 p131 q131
                              obtain rfl : ad124 = ad131 := (by injection e131)
                              replace hx131_0 := (HB.out.cell (World.block_lt_of_cell? w _ hx131_0)).trans hx131_0
                              replace hx131_1 := (HB.out.cell (World.block_lt_of_cell? w _ hx131_1)).trans hx131_1
                              replace hx131_2 := (HB.out.cell (World.block_lt_of_cell? w _ hx131_2)).trans hx131_2
                              have HR131_2 := Aside0.mk hi131_2
                              have HC131_2 := Aside0.mk hl131_2
                              clear hi131_2 hl131_2
                              replace p131 := eq_true p131
                              replace q131 := eq_true q131
                              have ea_ := Option.some.inj (hx124_2.symm.trans hx131_2)
                              injection ea_ with ea_ en_ ec_
                              subst ea_
                              subst ec_
                              clear en_
                              have p132 : 0 ≤ (x9_2 : Int) := of_decide_eq_true (by first | (with_reducible assumption) | assumption)
                              have q132 : x9_2 < (((rd_T47 l0 x6_1).f2).length : Int) := of_decide_eq_true (by first | (with_reducible assumption) | assumption)
                              obtain ⟨ad132, e132, hx132_0⟩ := Kd.at_int HR131_2.out x9_2 p132 q132
                              cases e132
                              replace hx132_0 := (HB.out.cell (World.block_lt_of_cell? w _ hx132_0)).trans hx132_0
                              replace p132 := eq_true p132
                              replace q132 := eq_true q132
                              obtain ⟨Ao16, co16, eo16⟩ := Kd.R_slice HO_4.out
                              subst eo16
                              have p133 : 0 ≤ ((rd ((rd_T47 l0 x6_1).f2) x9_2) : Int) := of_decide_eq_true (by first | (with_reducible assumption) | assumption)
                              have q133 : (rd ((rd_T47 l0 x6_1).f2) x9_2) < (x4_1.length : Int) := of_decide_eq_true (by first | (with_reducible assumption) | assumption)
                              obtain ⟨ad133, e133, hx133_0⟩ := Kd.at_int (Kd.R_reads' HO_4.out).2.2 (rd ((rd_T47 l0 x6_1).f2) x9_2) p133 q133
                              cases e133
                              replace p133 := eq_true p133
                              replace q133 := eq_true q133
                              obtain ⟨Ao17, co17, eo17⟩ := Kd.R_slice HO_5.out
                              subst eo17
                              have p134 : 0 ≤ ((rd ((rd_T47 l0 x6_1).f2) x9_2) : Int) := of_decide_eq_true (by first | (with_reducible assumption) | assumption)
                              have q134 : (rd ((rd_T47 l0 x6_1).f2) x9_2) < (x5_1.length : Int) := of_decide_eq_true (by first | (with_reducible assumption) | assumption)
                              obtain ⟨ad134, e134, hx134_0⟩ := Kd.at_int (Kd.R_reads' HO_5.out).2.2 (rd ((rd_T47 l0 x6_1).f2) x9_2) p134 q134
                              cases e134
                              replace p134 := eq_true p134
                              replace q134 := eq_true q134
                              have p135 : 0 ≤ ((rd ((rd_T47 l0 x6_1).f2) x9_2) : Int) := of_decide_eq_true (by first | (with_reducible assumption) | assumption)
                              have q135 : (rd ((rd_T47 l0 x6_1).f2) x9_2) < (x5_1.length : Int) := of_decide_eq_true (by first | (with_reducible assumption) | assumption)
                              obtain ⟨ad135, e135, hx135_0⟩ := Kd.at_int (Kd.R_reads' HO_5.out).2.2 (rd ((rd_T47 l0 x6_1).f2) x9_2) p135 q135
                              obtain rfl : ad134 = ad135 := (by injection e135)
                              replace p135 := eq_true p135
                              replace q135 := eq_true q135
                              go_wp2
                              go_roundg k2
                              case measure => have := HK1.out; have := HK2.out; omega
                              case rel => exact ⟨(9223372036854775807), (wrap64 ((rd x5_1 (rd ((rd_T47 l0 x6_1).f2) x9_2)) + 1)), (wrap64 (x9_2 + 1)), (by first | rfl | (simp; done) | (simp [*]; done)), (by first | rfl | (simp; done) | (simp [*]; done)), (by first | rfl | (simp; done) | (simp [*]; done)), H', ⟨by have := HK1.out; have := HK2.out; omega⟩, ⟨by (with_reducible repeat (first | apply Kd.R_alloc | apply Kd.R_drewN | apply Kd.R_drew)); exact HO_4.out⟩, ⟨by (with_reducible repeat (first | apply Kd.R_alloc | apply Kd.R_drewN | apply Kd.R_drew)); exact HO_5.out⟩, ⟨by repeat (first | (with_reducible first | exact HB.out | apply below_alloc | apply pw_below_drewN | apply below_drew1) | exact HB.out)⟩⟩
                            · rw [if_neg c15] at H
                              have c15b0 : decide (x8_2 < (wrap64 ((rd x5_1 (rd ((rd_T47 l0 x6_1).f2) x9_2)) + 1))) = false := decide_eq_false c15
                              clear c15
                              have H' := Aside0.mk H
                              clear H
                              have p124 : 0 ≤ (x6_1 : Int) := of_decide_eq_true (by first | (with_reducible assumption) | assumption)
                              have q124 : x6_1 < (l0.length : Int) := of_decide_eq_true (by first | (with_reducible assumption) | assumption)
                              obtain ⟨ad124, A124_2, c124_2, e124, hx124_0, hx124_1, hx124_2, hl124_2, hi124_2⟩ := at_T47 HR0.out x6_1 p124 q124
                              cases e124
                              replace hx124_0 := (HB.out.cell (World.block_lt_of_cell? w _ hx124_0)).trans hx124_0
                              replace hx124_1 := (HB.out.cell (World.block_lt_of_cell? w _ hx124_1)).trans hx124_1
                              replace hx124_2 := (HB.out.cell (World.block_lt_of_cell? w _ hx124_2)).trans hx124_2
                              have HR124_2 := Aside0.mk hi124_2
                              have HC124_2 := Aside0.mk hl124_2
                              clear hi124_2 hl124_2
                              replace p124 := eq_true p124
                              replace q124 := eq_true q124
                              have p131 : 0 ≤ (x6_1 : Int) := of_decide_eq_true (by first | (with_reducible assumption) | assumption)
                              have q131 : x6_1 < (l0.length : Int) := of_decide_eq_true (by first | (with_reducible assumption) | assumption)
                              obtain ⟨ad131, A131_2, c131_2, e131, hx131_0, hx131_1, hx131_2, hl131_2, hi131_2⟩ := at_T47 HR0.out x6_1 p131 q131
                              obtain rfl : ad124 = ad131 := (by injection e131)
                              replace hx131_0 := (HB.out.cell (World.block_lt_of_cell? w _ hx131_0)).trans hx131_0
                              replace hx131_1 := (HB.out.cell (World.block_lt_of_cell? w _ hx131_1)).trans hx131_1
                              replace hx131_2 := (HB.out.cell (World.block_lt_of_cell? w _ hx131_2)).trans hx131_2
                              have HR131_2 := Aside0.mk hi131_2
                              have HC131_2 := Aside0.mk hl131_2
                              clear hi131_2 hl131_2
                              replace p131 := eq_true p131
                              replace q131 := eq_true q131
                              have ea_ := Option.some.inj (hx124_2.symm.trans hx131_2)
                              injection ea_ with ea_ en_ ec_
                              subst ea_
                              subst ec_
                              clear en_
                              have p132 : 0 ≤ (x9_2 : Int) := of_decide_eq_true (by first | (with_reducible assumption) | assumption)
                              have q132 : x9_2 < (((rd_T47 l0 x6_1).f2).length : Int) := of_decide_eq_true (by first | (with_reducible assumption) | assumption)
                              obtain ⟨ad132, e132, hx132_0⟩ := Kd.at_int HR131_2.out x9_2 p132 q132
                              cases e132
                              replace hx132_0 := (HB.out.cell (World.block_lt_of_cell? w _ hx132_0)).trans hx132_0
                              replace p132 := eq_true p132
                              replace q132 := eq_true q132
                              obtain ⟨Ao18, co18, eo18⟩ := Kd.R_slice HO_4.out
                              subst eo18
                              have p133 : 0 ≤ ((rd ((rd_T47 l0 x6_1).f2) x9_2) : Int) := of_decide_eq_true (by first | (with_reducible assumption) | assumption)
                              have q133 : (rd ((rd_T47 l0 x6_1).f2) x9_2) < (x4_1.length : Int) := of_decide_eq_true (by first | (with_reducible assumption) | assumption)
                              obtain ⟨ad133, e133, hx133_0⟩ := Kd.at_int (Kd.R_reads' HO_4.out).2.2 (rd ((rd_T47 l0 x6_1).f2) x9_2) p133 q133
                              cases e133
                              replace p133 := eq_true p133
                              replace q133 := eq_true q133
                              obtain ⟨Ao19, co19, eo19⟩ := Kd.R_slice HO_5.out
                              subst eo19
                              have p134 : 0 ≤ ((rd ((rd_T47 l0 x6_1).f2) x9_2) : Int) := of_decide_eq_true (by first | (with_reducible assumption) | assumption)
                              have q134 : (rd ((rd_T47 l0 x6_1).f2) x9_2) < (x5_1.length : Int) := of_decide_eq_true (by first | (with_reducible assumption) | assumption)
                              obtain ⟨ad134, e134, hx134_0⟩ := Kd.at_int (Kd.R_reads' HO_5.out).2.2 (rd ((rd_T47 l0 x6_1).f2) x9_2) p134 q134
                              cases e134
                              replace p134 := eq_true p134
                              replace q134 := eq_true q134
                              go_wp2
                              go_roundg k2
                              case measure => have := HK1.out; have := HK2.out; omega
                              case rel => exact ⟨(9223372036854775807), (x8_2), (wrap64 (x9_2 + 1)), (by first | rfl | (simp; done) | (simp [*]; done)), (by first | rfl | (simp; done) | (simp [*]; done)), (by first | rfl | (simp; done) | (simp [*]; done)), H', ⟨by have := HK1.out; have := HK2.out; omega⟩, ⟨by (with_reducible repeat (first | apply Kd.R_alloc | apply Kd.R_drewN | apply Kd.R_drew)); exact HO_4.out⟩, ⟨by (with_reducible repeat (first | apply Kd.R_alloc | apply Kd.R_drewN | apply Kd.R_drew)); exact HO_5.out⟩, ⟨by repeat (first | (with_reducible first | exact HB.out | apply below_alloc | apply pw_below_drewN | apply below_drew1) | exact HB.out)⟩⟩
                          · rw [if_neg c14] at H
                            exact absurd H (by simp)
                        · rw [if_neg c13] at H
                          have c13b0 : decide ((wrap64 (9223372036854775807 - x7_2)) < (rd x4_1 (rd ((rd_T47 l0 x6_1).f2) x9_2))) = false := decide_eq_false c13
                          clear c13
                          by_cases c20 : (rd ((rd_T47 l0 x6_1).f2) x9_2) < (x5_1.length : Int)
                          · rw [if_pos c20] at H
                            have c20b0 : decide ((rd ((rd_T47 l0 x6_1).f2) x9_2) < (x5_1.length : Int)) = true := decide_eq_true c20
                            clear c20
                            by_cases c21 : (wrap64 ((rd x5_1 (rd ((rd_T47 l0 x6_1).f2) x9_2)) + 1)) > x8_2
                            · rw [if_pos c21] at H
                              have c21b0 : decide (x8_2 < (wrap64 ((rd x5_1 (rd ((rd_T47 l0 x6_1).f2) x9_2)) + 1))) = true := decide_eq_true c21
                              clear c21
                              have H' := Aside0.mk H
                              clear H
                              have p124 : 0 ≤ (x6_1 : Int) := of_decide_eq_true (by first | (with_reducible assumption) | assumption)
                              have q124 : x6_1 < (l0.length : Int) := of_decide_eq_true (by first | (with_reducible assumption) | assumption)
                              obtain ⟨ad124, A124_2, c124_2, e124, hx124_0, hx124_1, hx124_2, hl124_2, hi124_2⟩ := at_T47 HR0.out x6_1 p124 q124
                              cases e124
                              replace hx124_0 := (HB.out.cell (World.block_lt_of_cell? w _ hx124_0)).trans hx124_0
                              replace hx124_1 := (HB.out.cell (World.block_lt_of_cell? w _ hx124_1)).trans hx124_1
                              replace hx124_2 := (HB.out.cell (World.block_lt_of_cell? w _ hx124_2)).trans hx124_2
                              have HR124_2 := Aside0.mk hi124_2
                              have HC124_2 := Aside0.mk hl124_2
                              clear hi124_2 hl124_2
                              replace p124 := eq_true p124
                              replace q124 := eq_true q124
                              have p131 : 0 ≤ (x6_1 : Int) := of_decide_eq_true (by first | (with_reducible assumption) | assumption)
                              have q131 : x6_1 < (l0.length : Int) := of_decide_eq_true (by first | (with_reducible assumption) | assumption)
                              obtain ⟨ad131, A131_2, c131_2, e131, hx131_0, hx131_1, hx131_2, hl131_2, hi131_2⟩ := at_T47 HR0.out x6_1 p131 q131
                              obtain rfl : ad124 = ad131 := (by injection e131)
                              replace hx131_0 := (HB.out.cell (World.block_lt_of_cell? w _ hx131_0)).trans hx131_0
                              replace hx131_1 := (HB.out.cell (World.block_lt_of_cell? w _ hx131_1)).trans hx131_1
                              replace hx131_2 := (HB.out.cell (World.block_lt_of_cell? w _ hx131_2)).trans hx131_2
                              have HR131_2 := Aside0.mk hi131_2
                              have HC131_2 := Aside0.mk hl131_2
                              clear hi131_2 hl131_2
                              replace p131 := eq_true p131
                              replace q131 := eq_true q131
                              have ea_ := Option.some.inj (hx124_2.symm.trans hx131_2)
                              injection ea_ with ea_ en_ ec_
                              subst ea_
                              subst ec_
                              clear en_
                              have p132 : 0 ≤ (x9_2 : Int) := of_decide_eq_true (by first | (with_reducible assumption) | assumption)
                              have q132 : x9_2 < (((rd_T47 l0 x6_1).f2).length : Int) := of_decide_eq_true (by first | (with_reducible assumption) | assumption)
                              obtain ⟨ad132, e132, hx132_0⟩ := Kd.at_int HR131_2.out x9_2 p132 q132
                              cases e132
                              replace hx132_0 := (HB.out.cell (World.block_lt_of_cell? w _ hx132_0)).trans hx132_0
                              replace p132 := eq_true p132
                              replace q132 := eq_true q132
                              obtain ⟨Ao22, co22, eo22⟩ := Kd.R_slice HO_4.out
                              subst eo22
                              have p133 : 0 ≤ ((rd ((rd_T47 l0 x6_1).f2) x9_2) : Int) := of_decide_eq_true (by first | (with_reducible assumption) | assumption)
                              have q133 : (rd ((rd_T47 l0 x6_1).f2) x9_2) < (x4_1.length : Int) := of_decide_eq_true (by first | (with_reducible assumption) | assumption)
                              obtain ⟨ad133, e133, hx133_0⟩ := Kd.at_int (Kd.R_reads' HO_4.out).2.2 (rd ((rd_T47 l0 x6_1).f2) x9_2) p133 q133
                              cases e133
                              replace p133 := eq_true p133
                              replace q133 := eq_true q133
                              have p136 : 0 ≤ ((rd ((rd_T47 l0 x6_1).f2) x9_2) : Int) := of_decide_eq_true (by first | (with_reducible assumption) | assumption)
                              have q136 : (rd ((rd_T47 l0 x6_1).f2) x9_2) < (x4_1.length : Int) := of_decide_eq_true (by first | (with_reducible assumption) | assumption)
                              obtain ⟨ad136, e136, hx136_0⟩ := Kd.at_int (Kd.R_reads' HO_4.out).2.2 (rd ((rd_T47 l0 x6_1).f2) x9_2) p136 q136
                              obtain rfl : ad133 = ad136 := (by injection e136)
                              replace p136 := eq_true p136
                              replace q136 := eq_true q136
                              obtain ⟨Ao23, co23, eo23⟩ := Kd.R_slice HO_5.out
                              subst eo23
                              have p137 : 0 ≤ ((rd ((rd_T47 l0 x6_1).f2) x9_2) : Int) := of_decide_eq_true (by first | (with_reducible assumption) | assumption)
                              have q137 : (rd ((rd_T47 l0 x6_1).f2) x9_2) < (x5_1.length : Int) := of_decide_eq_true (by first | (with_reducible assumption) | assumption)
                              obtain ⟨ad137, e137, hx137_0⟩ := Kd.at_int (Kd.R_reads' HO_5.out).2.2 (rd ((rd_T47 l0 x6_1).f2) x9_2) p137 q137
                              cases e137
                              replace p137 := eq_true p137
                              replace q137 := eq_true q137
                              have p138 : 0 ≤ ((rd ((rd_T47 l0 x6_1).f2) x9_2) : Int) := of_decide_eq_true (by first | (with_reducible assumption) | assumption)
                              have q138 : (rd ((rd_T47 l0 x6_1).f2) x9_2) < (x5_1.length : Int) := of_decide_eq_true (by first | (with_reducible assumption) | assumption)
                              obtain ⟨ad138, e138, hx138_0⟩ := Kd.at_int (Kd.R_reads' HO_5.out).2.2 (rd ((rd_T47 l0 x6_1).f2) x9_2) p138 q138
                              obtain rfl : ad137 = ad138 := (by injection e138)
                              replace p138 := eq_true p138
                              replace q138 := eq_true q138
                              go_wp2
                              go_roundg k2
                              case measure => have := HK1.out; have := HK2.out; omega
                              case rel => exact ⟨(wrap64 (x7_2 + (rd x4_1 (rd ((rd_T47 l0 x6_1).f2) x9_2)))), (wrap64 ((rd x5_1 (rd ((rd_T47 l0 x6_1).f2) x9_2)) + 1)), (wrap64 (x9_2 + 1)), (by first | rfl | (simp; done) | (simp [*]; done)), (by first | rfl | (simp; done) | (simp [*]; done)), (by first | rfl | (simp; done) | (simp [*]; done)), H', ⟨by have := HK1.out; have := HK2.out; omega⟩, ⟨by (with_reducible repeat (first | apply Kd.R_alloc | apply Kd.R_drewN | apply Kd.R_drew)); exact HO_4.out⟩, ⟨by (with_reducible repeat (first | apply Kd.R_alloc | apply Kd.R_drewN | apply Kd.R_drew)); exact HO_5.out⟩, ⟨by repeat (first | (with_reducible first | exact HB.out | apply below_alloc | apply pw_below_drewN | apply below_drew1) | exact HB.out)⟩⟩
                            · rw [if_neg c21] at H
                              have c21b0 : decide (x8_2 < (wrap64 ((rd x5_1 (rd ((rd_T47 l0 x6_1).f2) x9_2)) + 1))) = false := decide_eq_false c21
                              clear c21
                              have H' := Aside0.mk H
                              clear H
                              have p124 : 0 ≤ (x6_1 : Int) := of_decide_eq_true (by first | (with_reducible assumption) | assumption)
                              have q124 : x6_1 < (l0.length : Int) := of_decide_eq_true (by first | (with_reducible assumption) | assumption)
                              obtain ⟨ad124, A124_2, c124_2, e124, hx124_0, hx124_1, hx124_2, hl124_2, hi124_2⟩ := at_T47 HR0.out x6_1 p124 q124
                              cases e124
                              replace hx124_0 := (HB.out.cell (World.block_lt_of_cell? w _ hx124_0)).trans hx124_0
                              replace hx124_1 := (HB.out.cell (World.block_lt_of_cell? w _ hx124_1)).trans hx124_1
                              replace hx124_2 := (HB.out.cell (World.block_lt_of_cell? w _ hx124_2)).trans hx124_2
                              have HR124_2 := Aside0.mk hi124_2
                              have HC124_2 := Aside0.mk hl124_2
                              clear hi124_2 hl124_2
                              replace p124 := eq_true p124
                              replace q124 := eq_true q124
                              have p131 : 0 ≤ (x6_1 : Int) := of_decide_eq_true (by first | (with_reducible assumption) | assumption)
                              have q131 : x6_1 < (l0.length : Int) := of_decide_eq_true (by first | (with_reducible assumption) | assumption)
                              obtain ⟨ad131, A131_2, c131_2, e131, hx131_0, hx131_1, hx131_2, hl131_2, hi131_2⟩ := at_T47 HR0.out x6_1 p131 q131
                              obtain rfl : ad124 = ad131 := (by injection e131)
                              replace hx131_0 := (HB.out.cell (World.block_lt_of_cell? w _ hx131_0)).trans hx131_0
                              replace hx131_1 := (HB.out.cell (World.block_lt_of_cell? w _ hx131_1)).trans hx131_1
                              replace hx131_2 := (HB.out.cell (World.block_lt_of_cell? w _ hx131_2)).trans hx131_2
                              have HR131_2 := Aside0.mk hi131_2
                              have HC131_2 := Aside0.mk hl131_2
                              clear hi131_2 hl131_2
                              replace p131 := eq_true p131
                              replace q131 := eq_true q131
                              have ea_ := Option.some.inj (hx124_2.symm.trans hx131_2)
                              injection ea_ with ea_ en_ ec_
                              subst ea_
                              subst ec_
                              clear en_
                              have p132 : 0 ≤ (x9_2 : Int) := of_decide_eq_true (by first | (with_reducible assumption) | assumption)
                              have q132 : x9_2 < (((rd_T47 l0 x6_1).f2).length : Int) := of_decide_eq_true (by first | (with_reducible assumption) | assumption)
                              obtain ⟨ad132, e132, hx132_0⟩ := Kd.at_int HR131_2.out x9_2 p132 q132
                              cases e132
                              replace hx132_0 := (HB.out.cell (World.block_lt_of_cell? w _ hx132_0)).trans hx132_0
                              replace p132 := eq_true p132
                              replace q132 := eq_true q132
                              obtain ⟨Ao24, co24, eo24⟩ := Kd.R_slice HO_4.out
                              subst eo24
                              have p133 : 0 ≤ ((rd ((rd_T47 l0 x6_1).f2) x9_2) : Int) := of_decide_eq_true (by first | (with_reducible assumption) | assumption)
                              have q133 : (rd ((rd_T47 l0 x6_1).f2) x9_2) < (x4_1.length : Int) := of_decide_eq_true (by first | (with_reducible assumption) | assumption)
                              obtain ⟨ad133, e133, hx133_0⟩ := Kd.at_int (Kd.R_reads' HO_4.out).2.2 (rd ((rd_T47 l0 x6_1).f2) x9_2) p133 q133
                              cases e133
                              replace p133 := eq_true p133
                              replace q133 := eq_true q133
                              have p136 : 0 ≤ ((rd ((rd_T47 l0 x6_1).f2) x9_2) : Int) := of_decide_eq_true (by first | (with_reducible assumption) | assumption)
                              have q136 : (rd ((rd_T47 l0 x6_1).f2) x9_2) < (x4_1.length : Int) := of_decide_eq_true (by first | (with_reducible assumption) | assumption)
                              obtain ⟨ad136, e136, hx136_0⟩ := Kd.at_int (Kd.R_reads' HO_4.out).2.2 (rd ((rd_T47 l0 x6_1).f2) x9_2) p136 q136
                              obtain rfl : ad133 = ad136 := (by injection e136)
                              replace p136 := eq_true p136
                              replace q136 := eq_true q136
                              obtain ⟨Ao25, co25, eo25⟩ := Kd.R_slice HO_5.out
                              subst eo25
                              have p137 : 0 ≤ ((rd ((rd_T47 l0 x6_1).f2) x9_2) : Int) := of_decide_eq_true (by first | (with_reducible assumption) | assumption)
                              have q137 : (rd ((rd_T47 l0 x6_1).f2) x9_2) < (x5_1.length : Int) := of_decide_eq_true (by first | (with_reducible assumption) | assumption)
                              obtain ⟨ad137, e137, hx137_0⟩ := Kd.at_int (Kd.R_reads' HO_5.out).2.2 (rd ((rd_T47 l0 x6_1).f2) x9_2) p137 q137
                              cases e137
                              replace p137 := eq_true p137
                              replace q137 := eq_true q137
                              go_wp2
                              go_roundg k2
                              case measure => have := HK1.out; have := HK2.out; omega
                              case rel => exact ⟨(wrap64 (x7_2 + (rd x4_1 (rd ((rd_T47 l0 x6_1).f2) x9_2)))), (x8_2), (wrap64 (x9_2 + 1)), (by first | rfl | (simp; done) | (simp [*]; done)), (by first | rfl | (simp; done) | (simp [*]; done)), (by first | rfl | (simp; done) | (simp [*]; done)), H', ⟨by have := HK1.out; have := HK2.out; omega⟩, ⟨by (with_reducible repeat (first | apply Kd.R_alloc | apply Kd.R_drewN | apply Kd.R_drew)); exact HO_4.out⟩, ⟨by (with_reducible repeat (first | apply Kd.R_alloc | apply Kd.R_drewN | apply Kd.R_drew)); exact HO_5.out⟩, ⟨by repeat (first | (with_reducible first | exact HB.out | apply below_alloc | apply pw_below_drewN | apply below_drew1) | exact HB.out)⟩⟩
                          · rw [if_neg c20] at H
                            exact absurd H (by simp)
                      · rw [if_neg c12] at H
                        exact absurd H (by simp)
                    · rw [if_neg c11] at H
                      exact absurd H (by simp)
                  · rw [if_neg c10] at H
                    exact absurd H (by simp)
                · rw [if_neg c9] at H
                  have c9b0 : decide (x9_2 < (((rd_T47 l0 x6_1).f2).length : Int)) = false := decide_eq_false c9
                  clear c9
                  by_cases c26 : x4_1.length < 17592186044416
                  · rw [if_pos c26] at H
                    have LMc26 := Aside0.mk c26
                    clear c26
                    obtain ⟨y125, hy125⟩ : ∃ y_ : List Int, y_ = (x4_1 ++ [x7_2]) := ⟨_, rfl⟩
                    replace H : (if x5_1.length < 17592186044416 then (stratagemref19_Sizes.l0 k2 l0 y125 (x5_1 ++ [x8_2]) (wrap64 (x6_1 + 1))) else (none)) = some (r1, r2) := by first | (rw [hy125]; with_reducible exact H) | (have H2_ := (Option.bind_some _ _).symm.trans H; rw [hy125]; with_reducible exact H2_) | (have H2_ := (Option.bind_some _ _).symm.trans H; with_reducible exact H2_) | with_reducible exact H | (rw [hy125]; exact H) | exact H
                    have Ny125 := Aside0.mk hy125
                    clear hy125
                    by_cases c27 : x5_1.length < 17592186044416
                    · rw [if_pos c27] at H
                      have LMc27 := Aside0.mk c27
                      clear c27
                      obtain ⟨y128, hy128⟩ : ∃ y_ : List Int, y_ = (x5_1 ++ [x8_2]) := ⟨_, rfl⟩
                      replace H : (stratagemref19_Sizes.l0 k2 l0 y125 y128 (wrap64 (x6_1 + 1))) = some (r1, r2) := by first | (rw [hy128]; with_reducible exact H) | (have H2_ := (Option.bind_some _ _).symm.trans H; rw [hy128]; with_reducible exact H2_) | (have H2_ := (Option.bind_some _ _).symm.trans H; with_reducible exact H2_) | with_reducible exact H | (rw [hy128]; exact H) | exact H
                      have Ny128 := Aside0.mk hy128
                      clear hy128
                      have H' := Aside0.mk H
                      clear H
                      have p124 : 0 ≤ (x6_1 : Int) := of_decide_eq_true (by first | (with_reducible assumption) | assumption)
                      have q124 : x6_1 < (l0.length : Int) := of_decide_eq_true (by first | (with_reducible assumption) | assumption)
                      obtain ⟨ad124, A124_2, c124_2, e124, hx124_0, hx124_1, hx124_2, hl124_2, hi124_2⟩ := at_T47 HR0.out x6_1 p124 q124
                      cases e124
                      replace hx124_0 := (HB.out.cell (World.block_lt_of_cell? w _ hx124_0)).trans hx124_0
                      replace hx124_1 := (HB.out.cell (World.block_lt_of_cell? w _ hx124_1)).trans hx124_1
                      replace hx124_2 := (HB.out.cell (World.block_lt_of_cell? w _ hx124_2)).trans hx124_2
                      have HR124_2 := Aside0.mk hi124_2
                      have HC124_2 := Aside0.mk hl124_2
                      clear hi124_2 hl124_2
                      replace p124 := eq_true p124
                      replace q124 := eq_true q124
                      go_wp2_with (first | ((with_reducible refine gate_builtin (b := .append) (xs := #[.tmp 62, .tmp 64]) rfl ?_); at_builtin; refine Kd.R_append (Kd.int .i64) (w0 := w) w.heap.size rfl (.tmp 62) (.tmp 64) 29 3 (.int .i64 0) 8 rfl Tryd.underlying29 info3 rfl (by decide) (by omega) u4 x4_1 x7_2 [.int .i64 x7_2] (fun k_ => some k_ ≠ (u5 : Value).ownBlock) (fun _ => False) rfl rfl ?aP (fun _ hk => hk.elim) ?aF ?aO ?aB ?aS ?aL ?_; (case aP => exact rfl); (case aB => exact (by repeat (first | (with_reducible first | exact HB.out | apply below_alloc | apply pw_below_drewN | apply below_drew1) | exact HB.out))); (case aF => exact (fun k_ hk => Kd.fresh' (Kd.R_lt (by (with_reducible repeat (first | apply Kd.R_alloc | apply Kd.R_drewN | apply Kd.R_drew)); exact HO_5.out)) k_ hk)); (case aO => exact (by (with_reducible repeat (first | apply Kd.R_alloc | apply Kd.R_drewN | apply Kd.R_drew)); exact HO_4.out)); (case aS => exact (below_size (by repeat (first | (with_reducible first | exact HB.out | apply below_alloc | apply pw_below_drewN | apply below_drew1) | exact HB.out)))); (case aL => have := LMc26.out; omega); intro v126 w28 ho hb hg hat; rw [← Ny125.out] at ho; have n0_ := Aside0.mk (Kd.R_after (ok := (fun _ => True)) (by (with_reducible repeat (first | apply Kd.R_alloc | apply Kd.R_drewN | apply Kd.R_drew)); exact Kd.R_mono HO_5.out (fun _ hk => ⟨trivial, hk⟩)) hg hat); have n1_ := Aside0.mk (hb); have n2_ := Aside0.mk (ho); clear HO_5; clear HB; clear HO_4; have HO_5 := n0_; have HB := n1_; have HO127 := n2_; clear n0_ n1_ n2_; clear ho hb hg hat) | ((with_reducible refine gate_builtin (b := .append) (xs := #[.tmp 66, .tmp 68]) rfl ?_); at_builtin; refine Kd.R_append (Kd.int .i64) (w0 := w) w.heap.size rfl (.tmp 66) (.tmp 68) 29 3 (.int .i64 0) 8 rfl Tryd.underlying29 info3 rfl (by decide) (by omega) u5 x5_1 x8_2 [.int .i64 x8_2] (fun k_ => some k_ ≠ (v126 : Value).ownBlock) (fun _ => False) rfl rfl ?aP (fun _ hk => hk.elim) ?aF ?aO ?aB ?aS ?aL ?_; (case aP => exact rfl); (case aB => exact (by repeat (first | (with_reducible first | exact HB.out | apply below_alloc | apply pw_below_drewN | apply below_drew1) | exact HB.out))); (case aF => exact (fun k_ hk => Kd.fresh' (Kd.R_lt (by (with_reducible repeat (first | apply Kd.R_alloc | apply Kd.R_drewN | apply Kd.R_drew)); exact HO127.out)) k_ hk)); (case aO => exact (by (with_reducible repeat (first | apply Kd.R_alloc | apply Kd.R_drewN | apply Kd.R_drew)); exact Kd.R_mono HO_5.out (fun _ hk => hk.2))); (case aS => exact (below_size (by repeat (first | (with_reducible first | exact HB.out | apply below_alloc | apply pw_below_drewN | apply below_drew1) | exact HB.out)))); (case aL => have := LMc27.out; omega); intro v129 w29 ho hb hg hat; rw [← Ny128.out] at ho; have n0_ := Aside0.mk (Kd.R_after (ok := (fun _ => True)) (by (with_reducible repeat (first | apply Kd.R_alloc | apply Kd.R_drewN | apply Kd.R_drew)); exact Kd.R_mono HO127.out (fun _ hk => ⟨trivial, hk⟩)) hg hat); have n1_ := Aside0.mk (hb); have n2_ := Aside0.mk (ho); clear HO127; clear HB; clear HO_5; have HO127 := n0_; have HB := n1_; have HO130 := n2_; clear n0_ n1_ n2_; clear ho hb hg hat))
                      go_roundg k2
                      case measure => have := HK1.out; have := HK2.out; omega
                      case rel => exact ⟨(y125), (y128), (wrap64 (x6_1 + 1)), (by first | rfl | (simp; done) | (simp [*]; done)), H', ⟨by have := HK1.out; have := HK2.out; omega⟩, ⟨by (with_reducible repeat (first | apply Kd.R_alloc | apply Kd.R_drewN | apply Kd.R_drew)); exact Kd.R_mono HO127.out (fun _ hk => hk.2)⟩, ⟨by (with_reducible repeat (first | apply Kd.R_alloc | apply Kd.R_drewN | apply Kd.R_drew)); exact HO130.out⟩, ⟨by repeat (first | (with_reducible first | exact HB.out | apply below_alloc | apply pw_below_drewN | apply below_drew1) | exact HB.out)⟩⟩
                    · rw [if_neg c27] at H
                      exact absurd H (by simp)
                  · rw [if_neg c26] at H
                    exact absurd H (by simp)
              · rw [if_neg c8] at H
                exact absurd H (by simp)
            · rw [if_neg c7] at H
              exact absurd H (by simp)
      · rw [if_neg c6] at H
        have c6b0 : decide (x6_1 < (l0.length : Int)) = false := decide_eq_false c6
        clear c6
        simp only [Option.some.injEq, Prod.mk.injEq] at H
        obtain ⟨rfl, rfl⟩ := H
        go_wp2
        go_ret2
        exact ⟨_, _, by first | rfl | (simp [errW_none, errW_some] <;> rfl) | (simp [*, errW_none, errW_some] <;> rfl), by (with_reducible repeat (first | apply Kd.R_alloc | apply Kd.R_drewN | apply Kd.R_drew)); exact HO_4.out, by (with_reducible repeat (first | apply Kd.R_alloc | apply Kd.R_drewN | apply Kd.R_drew)); exact HO_5.out, by repeat (first | (with_reducible first | exact HB.out | apply below_alloc | apply pw_below_drewN | apply below_drew1) | exact HB.out)⟩

/-! ### stratagemlaw19_Large: function 7 -/
def stratagemlaw19_Large.l0 : Nat → List (S46) → List (S46) → Int → Int → Option (Bool)
  | 0, _, _, _, _ => none
  | k + 1, x0, x10, x11, x12 => if x12 < x11 then (if 0 ≤ x12 then (if x12 < (x10.length : Int) then (if (((rd_T46 x10 x12).f2).length : Int) > 200 then (some true) else (stratagemlaw19_Large.l0 k x0 x10 x11 (wrap64 (x12 + 1)))) else (none)) else (none)) else ((stratagemlaw19_Own.f k x0).bind fun t141 => ((stratagemref19_May.f k t141).bind fun t144 => (if t144 = true then ((stratagemlaw19_Own.f k x0).bind fun t145 => ((stratagemref19_Sizes.f k t145).bind fun bt148 => (if 0 ≤ (wrap64 ((bt148.1.length : Int) - 1)) then (if (wrap64 ((bt148.1.length : Int) - 1)) < (bt148.1.length : Int) then (some (decide ((rd bt148.1 (wrap64 ((bt148.1.length : Int) - 1))) > 400))) else (none)) else (none)))) else (some false))))
def stratagemlaw19_Large.f (k : Nat) (l0 : List (S46)) : Option (Bool) := if (l0.length : Int) > 200 then (some true) else (stratagemlaw19_Large.l0 k l0 l0 (l0.length : Int) 0)
theorem stratagemlaw19_Large.mono_l : ∀ k, (∀ y0 y1 y2 y3, LeO (stratagemlaw19_Large.l0 k y0 y1 y2 y3) (stratagemlaw19_Large.l0 (k + 1) y0 y1 y2 y3))
  | 0 => fun _ _ _ _ r h => by simp [stratagemlaw19_Large.l0] at h
  | k + 1 => by
    have ih0 := stratagemlaw19_Large.mono_l k
    · intro y0 y1 y2 y3
      unfold stratagemlaw19_Large.l0
      repeat' first
      | (with_reducible exact ih0 _ _ _ _)
      | (with_reducible exact stratagemlaw19_Own.mono _ _)
      | (with_reducible exact stratagemref19_May.mono _ _)
      | (with_reducible exact stratagemref19_Sizes.mono _ _)
      | (with_reducible exact LeO.refl _)
      | (with_reducible exact LeO.none _)
      | (with_reducible refine LeO.ite ?_ ?_)
      | (with_reducible refine LeO.bind ?_ (fun _ => ?_))
      | exact ih0 _ _ _ _
      | exact stratagemlaw19_Own.mono _ _
      | exact stratagemref19_May.mono _ _
      | exact stratagemref19_Sizes.mono _ _
      | exact LeO.none _
      | refine LeO.ite ?_ ?_
      | refine LeO.bind ?_ (fun _ => ?_)
theorem stratagemlaw19_Large.mono : ∀ a0 k, LeO (stratagemlaw19_Large.f k a0) (stratagemlaw19_Large.f (k + 1) a0) := by
  intro a0 k
  have ih0 := stratagemlaw19_Large.mono_l k
  unfold stratagemlaw19_Large.f
  repeat' first
      | (with_reducible exact ih0 _ _ _ _)
      | (with_reducible exact stratagemlaw19_Own.mono _ _)
      | (with_reducible exact stratagemref19_May.mono _ _)
      | (with_reducible exact stratagemref19_Sizes.mono _ _)
      | (with_reducible exact LeO.refl _)
      | (with_reducible exact LeO.none _)
      | (with_reducible refine LeO.ite ?_ ?_)
      | (with_reducible refine LeO.bind ?_ (fun _ => ?_))
      | exact ih0 _ _ _ _
      | exact stratagemlaw19_Own.mono _ _
      | exact stratagemref19_May.mono _ _
      | exact stratagemref19_Sizes.mono _ _
      | exact LeO.none _
      | refine LeO.ite ?_ ?_
      | refine LeO.bind ?_ (fun _ => ?_)
set_option maxHeartbeats 8000000 in
set_option maxRecDepth 100000 in
theorem stratagemlaw19_Large.calls (k : Nat) (A0 : Option Addr) (c0 : Nat) (l0 : List (S46)) (r : Bool) (w : World) (hr0 : Kd.C k46 w A0 l0.length l0) (hc0 : l0.length ≤ c0) (h : stratagemlaw19_Large.f k l0 = some r) :
    Calls Tryd.prog 7 #[.slice A0 l0.length c0] w fun e w' => e = .returned (.bool r) ∧ Below w.heap.size w w' := by
  have hu46 := Tryd.underlying46
  have HR0 := Aside0.mk hr0
  have HC0 := Aside0.mk hc0
  clear hr0 hc0
  have HB := Aside0.mk (Below.refl w.heap.size w)
  have H : (if (l0.length : Int) > 200 then (some true) else (stratagemlaw19_Large.l0 k l0 l0 (l0.length : Int) 0)) = some r := h
  clear h
  by_cases c2 : (l0.length : Int) > 200
  · rw [if_pos c2] at H
    have c2b0 : decide (200 < (l0.length : Int)) = true := decide_eq_true c2
    have c2b1 : decide (200 < l0.length) = true := decide_eq_true (by omega)
    clear c2
    obtain rfl := Option.some.inj H
    go_enter Tryd.func7, Tryd.ntmps7
    go_wp2
    go_ret
    exact ⟨by first | rfl | (simp [errW_none, errW_some] <;> rfl) | (simp [*, errW_none, errW_some] <;> rfl), by repeat (first | (with_reducible first | exact HB.out | apply below_alloc | apply pw_below_drewN | apply below_drew1) | exact HB.out)⟩
  · rw [if_neg c2] at H
    have c2b0 : decide (200 < (l0.length : Int)) = false := decide_eq_false c2
    have c2b1 : decide (200 < l0.length) = false := decide_eq_false (by omega)
    clear c2
    have H' := Aside0.mk H
    clear H
    go_enter Tryd.func7, Tryd.ntmps7
    go_wp2
    go_loopg [12] k (fun kq v12 w' => ∃ (x12_1 : Int), v12 = .int .i64 x12_1 ∧ Aside0 (stratagemlaw19_Large.l0 kq l0 l0 (l0.length : Int) x12_1 = some r) ∧ Aside0 (kq ≤ k) ∧ Aside0 (Below w.heap.size w w'))
    case atStart => exact ⟨(0), (by first | rfl | (simp; done) | (simp [*]; done)), H', ⟨Nat.le_refl _⟩, ⟨by repeat (first | (with_reducible first | exact HB.out | apply below_alloc | apply pw_below_drewN | apply below_drew1) | exact HB.out)⟩⟩
    case round =>
      clear H'
      try clear c2
      try clear c2b0
      try clear c2b1
      try clear p2
      obtain ⟨x12_1, rfl, HA, HK1, HB⟩ := hrel
      cases gk with
      | zero => exact absurd HA.out (by simp [stratagemlaw19_Large.l0])
      | succ k1 =>
        have H := HA.out
        clear HA
        simp only [stratagemlaw19_Large.l0] at H
        by_cases c3 : x12_1 < (l0.length : Int)
        · rw [if_pos c3] at H
          have c3b0 : decide (x12_1 < (l0.length : Int)) = true := decide_eq_true c3
          clear c3
          by_cases c4 : 0 ≤ x12_1
          · rw [if_pos c4] at H
            have c4b0 : decide (0 ≤ x12_1) = true := decide_eq_true c4
            clear c4
            by_cases c5 : x12_1 < (l0.length : Int)
            · rw [if_pos c5] at H
              have c5b0 : decide (x12_1 < (l0.length : Int)) = true := decide_eq_true c5
              clear c5
              by_cases c6 : (((rd_T46 l0 x12_1).f2).length : Int) > 200
              · rw [if_pos c6] at H
                have c6b0 : decide (200 < (((rd_T46 l0 x12_1).f2).length : Int)) = true := decide_eq_true c6
                have c6b1 : decide (200 < ((rd_T46 l0 x12_1).f2).length) = true := decide_eq_true (by omega)
                clear c6
                obtain rfl := Option.some.inj H
                have p139 : 0 ≤ (x12_1 : Int) := of_decide_eq_true (by first | (with_reducible assumption) | assumption)
                have q139 : x12_1 < (l0.length : Int) := of_decide_eq_true (by first | (with_reducible assumption) | assumption)
                obtain ⟨ad139, A139_2, c139_2, e139, hx139_0, hx139_1, hx139_2, hl139_2, hi139_2⟩ := at_T46 HR0.out x12_1 p139 q139
                cases e139
                replace hx139_0 := (HB.out.cell (World.block_lt_of_cell? w _ hx139_0)).trans hx139_0
                replace hx139_1 := (HB.out.cell (World.block_lt_of_cell? w _ hx139_1)).trans hx139_1
                replace hx139_2 := (HB.out.cell (World.block_lt_of_cell? w _ hx139_2)).trans hx139_2
                have HR139_2 := Aside0.mk hi139_2
                have HC139_2 := Aside0.mk hl139_2
                clear hi139_2 hl139_2
                replace p139 := eq_true p139
                replace q139 := eq_true q139
                go_wp2_with (first | ((with_reducible refine gate_dst (N := 4) rfl ?_); refine box_event ?hg (N := 4) ?hd (cs := #[.int .i64 0, .int .i64 0, .slice none 0 0]) (t := 46) ?hr ?_; (case hd => rfl); (case hg => rfl); (case hr => first | (go_simp; done) | (go_simp; rfl)); intro gb140 hg w7 hbox hb; have n0_ := Aside0.mk (below_step (by repeat (first | (with_reducible first | exact HB.out | apply below_alloc | apply pw_below_drewN | apply below_drew1) | exact HB.out)) hb); have n1_ := Aside0.mk (hbox); have n2_ := Aside0.mk ((by rw [hg]; exact (below_size (by repeat (first | (with_reducible first | exact HB.out | apply below_alloc | apply pw_below_drewN | apply below_drew1) | exact HB.out))) : w.heap.size ≤ gb140)); have n3_ := Aside0.mk ((by rw [hg]; exact (below_size (by repeat (first | (with_reducible first | exact HB.out | apply below_alloc | apply pw_below_drewN | apply below_drew1) | exact HB.out))) : w.heap.size ≤ gb140)); clear HB; have HB := n0_; have BK140 := n1_; have GW140 := n2_; have GE140 := n3_; clear n0_ n1_ n2_ n3_; clear hb hbox hg; have hcz8_0 : w7.cell? ⟨gb140, 0, none⟩ = some (.int .i64 0) := (blk_cell BK140.out 0).trans rfl; have hcz8_1 : w7.cell? ⟨gb140, 1, none⟩ = some (.int .i64 0) := (blk_cell BK140.out 1).trans rfl; have hcz8_2 : w7.cell? ⟨gb140, 2, none⟩ = some (.slice none 0 0) := (blk_cell BK140.out 2).trans rfl; have hfz8_0 := blk_frozen BK140.out 0; have hfz8_1 := blk_frozen BK140.out 1; have hfz8_2 := blk_frozen BK140.out 2))
                go_ret
                exact ⟨by first | rfl | (simp [errW_none, errW_some] <;> rfl) | (simp [*, errW_none, errW_some] <;> rfl), by repeat (first | (with_reducible first | exact HB.out | apply below_alloc | apply pw_below_drewN | apply below_drew1 | refine below_set ?_ GE140.out) | exact HB.out)⟩
              · rw [if_neg c6] at H
                have c6b0 : decide (200 < (((rd_T46 l0 x12_1).f2).length : Int)) = false := decide_eq_false c6
                have c6b1 : decide (200 < ((rd_T46 l0 x12_1).f2).length) = false := decide_eq_false (by omega)
                clear c6
                have H' := Aside0.mk H
                clear H
                have p139 : 0 ≤ (x12_1 : Int) := of_decide_eq_true (by first | (with_reducible assumption) | assumption)
                have q139 : x12_1 < (l0.length : Int) := of_decide_eq_true (by first | (with_reducible assumption) | assumption)
                obtain ⟨ad139, A139_2, c139_2, e139, hx139_0, hx139_1, hx139_2, hl139_2, hi139_2⟩ := at_T46 HR0.out x12_1 p139 q139
                cases e139
                replace hx139_0 := (HB.out.cell (World.block_lt_of_cell? w _ hx139_0)).trans hx139_0
                replace hx139_1 := (HB.out.cell (World.block_lt_of_cell? w _ hx139_1)).trans hx139_1
                replace hx139_2 := (HB.out.cell (World.block_lt_of_cell? w _ hx139_2)).trans hx139_2
                have HR139_2 := Aside0.mk hi139_2
                have HC139_2 := Aside0.mk hl139_2
                clear hi139_2 hl139_2
                replace p139 := eq_true p139
                replace q139 := eq_true q139
                go_wp2_with (first | ((with_reducible refine gate_dst (N := 4) rfl ?_); refine box_event ?hg (N := 4) ?hd (cs := #[.int .i64 0, .int .i64 0, .slice none 0 0]) (t := 46) ?hr ?_; (case hd => rfl); (case hg => rfl); (case hr => first | (go_simp; done) | (go_simp; rfl)); intro gb140 hg w9 hbox hb; have n0_ := Aside0.mk (below_step (by repeat (first | (with_reducible first | exact HB.out | apply below_alloc | apply pw_below_drewN | apply below_drew1) | exact HB.out)) hb); have n1_ := Aside0.mk (hbox); have n2_ := Aside0.mk ((by rw [hg]; exact (below_size (by repeat (first | (with_reducible first | exact HB.out | apply below_alloc | apply pw_below_drewN | apply below_drew1) | exact HB.out))) : w.heap.size ≤ gb140)); have n3_ := Aside0.mk ((by rw [hg]; exact (below_size (by repeat (first | (with_reducible first | exact HB.out | apply below_alloc | apply pw_below_drewN | apply below_drew1) | exact HB.out))) : w.heap.size ≤ gb140)); clear HB; have HB := n0_; have BK140 := n1_; have GW140 := n2_; have GE140 := n3_; clear n0_ n1_ n2_ n3_; clear hb hbox hg; have hcz10_0 : w9.cell? ⟨gb140, 0, none⟩ = some (.int .i64 0) := (blk_cell BK140.out 0).trans rfl; have hcz10_1 : w9.cell? ⟨gb140, 1, none⟩ = some (.int .i64 0) := (blk_cell BK140.out 1).trans rfl; have hcz10_2 : w9.cell? ⟨gb140, 2, none⟩ = some (.slice none 0 0) := (blk_cell BK140.out 2).trans rfl; have hfz10_0 := blk_frozen BK140.out 0; have hfz10_1 := blk_frozen BK140.out 1; have hfz10_2 := blk_frozen BK140.out 2))
                go_roundg k1
                case measure => have := HK1.out; omega
                case rel => exact ⟨(wrap64 (x12_1 + 1)), (by first | rfl | (simp; done) | (simp [*]; done)), H', ⟨by have := HK1.out; omega⟩, ⟨by repeat (first | (with_reducible first | exact HB.out | apply below_alloc | apply pw_below_drewN | apply below_drew1 | refine below_set ?_ GE140.out) | exact HB.out)⟩⟩
            · rw [if_neg c5] at H
              exact absurd H (by simp)
          · rw [if_neg c4] at H
            exact absurd H (by simp)
        · rw [if_neg c3] at H
          have c3b0 : decide (x12_1 < (l0.length : Int)) = false := decide_eq_false c3
          clear c3
          replace H := Option.bind_eq_some_iff.mp H
          obtain ⟨t141, A110, H⟩ := H
          replace H : ((stratagemref19_May.f k1 t141).bind fun t144 => (if t144 = true then ((stratagemlaw19_Own.f k1 l0).bind fun t145 => ((stratagemref19_Sizes.f k1 t145).bind fun bt148 => (if 0 ≤ (wrap64 ((bt148.1.length : Int) - 1)) then (if (wrap64 ((bt148.1.length : Int) - 1)) < (bt148.1.length : Int) then (some (decide ((rd bt148.1 (wrap64 ((bt148.1.length : Int) - 1))) > 400))) else (none)) else (none)))) else (some false))) = some r := H
          have A11 := Aside0.mk A110
          clear A110
          replace H := Option.bind_eq_some_iff.mp H
          obtain ⟨t144, A120, H⟩ := H
          replace H : (if t144 = true then ((stratagemlaw19_Own.f k1 l0).bind fun t145 => ((stratagemref19_Sizes.f k1 t145).bind fun bt148 => (if 0 ≤ (wrap64 ((bt148.1.length : Int) - 1)) then (if (wrap64 ((bt148.1.length : Int) - 1)) < (bt148.1.length : Int) then (some (decide ((rd bt148.1 (wrap64 ((bt148.1.length : Int) - 1))) > 400))) else (none)) else (none)))) else (some false)) = some r := H
          have A12 := Aside0.mk A120
          clear A120
          by_cases c13 : t144 = true
          · subst c13
            have H1 : ((stratagemlaw19_Own.f k1 l0).bind fun t145 => ((stratagemref19_Sizes.f k1 t145).bind fun bt148 => (if 0 ≤ (wrap64 ((bt148.1.length : Int) - 1)) then (if (wrap64 ((bt148.1.length : Int) - 1)) < (bt148.1.length : Int) then (some (decide ((rd bt148.1 (wrap64 ((bt148.1.length : Int) - 1))) > 400))) else (none)) else (none)))) = some r := by rw [if_pos rfl] at H; exact H
            clear H
            have H := H1
            clear H1
            replace H := Option.bind_eq_some_iff.mp H
            obtain ⟨t145, A140, H⟩ := H
            replace H : ((stratagemref19_Sizes.f k1 t145).bind fun bt148 => (if 0 ≤ (wrap64 ((bt148.1.length : Int) - 1)) then (if (wrap64 ((bt148.1.length : Int) - 1)) < (bt148.1.length : Int) then (some (decide ((rd bt148.1 (wrap64 ((bt148.1.length : Int) - 1))) > 400))) else (none)) else (none))) = some r := H
            have A14 := Aside0.mk A140
            clear A140
            replace H := Option.bind_eq_some_iff.mp H
            obtain ⟨⟨t148, t149⟩, A150, H⟩ := H
            replace H : (if 0 ≤ (wrap64 ((t148.length : Int) - 1)) then (if (wrap64 ((t148.length : Int) - 1)) < (t148.length : Int) then (some (decide ((rd t148 (wrap64 ((t148.length : Int) - 1))) > 400))) else (none)) else (none)) = some r := H
            have A15 := Aside0.mk A150
            clear A150
            obtain ⟨ji16, hji16⟩ : ∃ j_ : Int, (wrap64 ((t148.length : Int) - 1)) = j_ := ⟨_, rfl⟩
            replace H : (if 0 ≤ (ji16) then (if (ji16) < (t148.length : Int) then (some (decide ((rd t148 (ji16)) > 400))) else (none)) else (none)) = some r := by first | (rw [hji16] at H; exact H) | (simp only [hji16] at H ⊢; exact H)
            (try rw [hji16] at A11)
            (try rw [hji16] at A12)
            (try rw [hji16] at A14)
            (try rw [hji16] at A15)
            have hji16w : (IntKind.i64.wrap ((t148.length : Int) - 1)) = ji16 := (i64_w _).trans hji16
            by_cases c17 : 0 ≤ (ji16)
            · rw [if_pos c17] at H
              have c17b0 : decide (0 ≤ (ji16)) = true := decide_eq_true c17
              clear c17
              by_cases c18 : (ji16) < (t148.length : Int)
              · rw [if_pos c18] at H
                have c18b0 : decide ((ji16) < (t148.length : Int)) = true := decide_eq_true c18
                clear c18
                obtain rfl := Option.some.inj H
                go_wp2_with (first | ((with_reducible refine gate_callee (f := 8) rfl ?_); refine goesL_ (some 22) rfl rfl Tryd.func8 (by kernel_rfl) rfl #[.slice A0 l0.length c0] rfl (by (try simp only [List.map_toArray, List.map_cons, List.map_nil]); first | done | rfl | (simp only [List.length_drop, List.length_take]; rfl)) ?_; (with_reducible refine (stratagemlaw19_Own.calls k1 (fun k_ => k_ < w.heap.size) _ _ l0 t141 _ ?side1 A11.out).mono ?_); (case side1 => exact Kd.V_mk HC0.out (Kd.F_below (Kd.C_F k46_heap HR0.out) (by repeat (first | (with_reducible first | exact HB.out | apply below_alloc | apply pw_below_drewN | apply below_drew1) | exact HB.out)))); rintro e w19 ⟨v142, rfl, ho0, hb⟩; refine ⟨_, rfl, ?_⟩; have n0_ := Aside0.mk (Kd.N_lower (Kd.N_mono (ok' := fun k_ => True) ho0 (fun k_ hk_ => trivial)) (below_size (by repeat (first | (with_reducible first | exact HB.out | apply below_alloc | apply pw_below_drewN | apply below_drew1) | exact HB.out)))); have n1_ := Aside0.mk (below_step (by repeat (first | (with_reducible first | exact HB.out | apply below_alloc | apply pw_below_drewN | apply below_drew1) | exact HB.out)) hb); clear HB; have HO143 := n0_; have HB := n1_; clear n0_ n1_; (try clear hb); (try clear hb2); (try clear hk); (try clear hi); (try clear ho0); obtain ⟨Ao20, co20, eo20⟩ := Kd.N_slice HO143.out; subst eo20) | ((with_reducible refine gate_callee (f := 9) rfl ?_); refine goesL_ (some 23) rfl rfl Tryd.func9 (by kernel_rfl) rfl #[.slice Ao20 t141.length co20] rfl (by (try simp only [List.map_toArray, List.map_cons, List.map_nil]); first | done | rfl | (simp only [List.length_drop, List.length_take]; rfl)) ?_; (with_reducible refine (stratagemref19_May.calls k1 _ _ t141 true _ ?side1 ?side2 A12.out).mono ?_); (case side1 => repeat (first | exact (Kd.N_reads' HO143.out).2.2 | (with_reducible refine Kd.C_alloc ?_ _) | (with_reducible refine Kd.C_drewN ?_ _) | (with_reducible refine Kd.C_drew ?_))); (case side2 => exact (Kd.N_reads' HO143.out).2.1); rintro e w' ⟨rfl, ⟨nd, rfl⟩⟩; refine ⟨_, rfl, ?_⟩) | ((with_reducible refine gate_callee (f := 8) rfl ?_); refine goesL_ (some 27) rfl rfl Tryd.func8 (by kernel_rfl) rfl #[.slice A0 l0.length c0] rfl (by (try simp only [List.map_toArray, List.map_cons, List.map_nil]); first | done | rfl | (simp only [List.length_drop, List.length_take]; rfl)) ?_; (with_reducible refine (stratagemlaw19_Own.calls k1 (fun k_ => k_ < w.heap.size) _ _ l0 t145 _ ?side1 A14.out).mono ?_); (case side1 => exact Kd.V_mk HC0.out (Kd.F_below (Kd.C_F k46_heap HR0.out) (by repeat (first | (with_reducible first | exact HB.out | apply below_alloc | apply pw_below_drewN | apply below_drew1) | exact HB.out)))); rintro e w21 ⟨v146, rfl, ho0, hb⟩; refine ⟨_, rfl, ?_⟩; have n0_ := Aside0.mk (Kd.N_elder' (by (with_reducible repeat (first | apply Kd.N_alloc | apply Kd.N_drewN | apply Kd.N_drew)); exact HO143.out) (Kd.N_base ho0) hb); have n1_ := Aside0.mk (Kd.N_lower (Kd.N_mono (ok' := fun k_ => some k_ ≠ (.slice Ao20 t141.length co20 : Value).ownBlock) ho0 (fun k_ hk_ => Or.elim hk_ (fun hs_ => fun e_ => Nat.not_le.2 hs_ (Kd.N_base HO143.out k_ e_.symm)) (fun hn_ => (Kd.fresh' (Kd.N_lt (by (with_reducible repeat (first | apply Kd.N_alloc | apply Kd.N_drewN | apply Kd.N_drew)); exact HO143.out)) k_ hn_)))) (below_size (by repeat (first | (with_reducible first | exact HB.out | apply below_alloc | apply pw_below_drewN | apply below_drew1) | exact HB.out)))); have n2_ := Aside0.mk (below_step (by repeat (first | (with_reducible first | exact HB.out | apply below_alloc | apply pw_below_drewN | apply below_drew1) | exact HB.out)) hb); clear HO143; clear HB; have HO143 := n0_; have HO147 := n1_; have HB := n2_; clear n0_ n1_ n2_; (try clear hb); (try clear hb2); (try clear hk); (try clear hi); (try clear ho0); obtain ⟨Ao22, co22, eo22⟩ := Kd.N_slice HO147.out; subst eo22) | ((with_reducible refine gate_callee (f := 10) rfl ?_); refine goesL_ (some 28) rfl rfl Tryd.func10 (by kernel_rfl) rfl #[.slice Ao22 t145.length co22] rfl (by (try simp only [List.map_toArray, List.map_cons, List.map_nil]); first | done | rfl | (simp only [List.length_drop, List.length_take]; rfl)) ?_; (with_reducible refine (stratagemref19_Sizes.calls k1 _ _ t145 t148 t149 _ ?side1 ?side2 A15.out).mono ?_); (case side1 => repeat (first | exact (Kd.N_reads' HO147.out).2.2 | (with_reducible refine Kd.C_alloc ?_ _) | (with_reducible refine Kd.C_drewN ?_ _) | (with_reducible refine Kd.C_drew ?_))); (case side2 => exact (Kd.N_reads' HO147.out).2.1); rintro e w23 ⟨v150, v152, rfl, ho0, ho1, hb⟩; refine ⟨_, rfl, ?_⟩; have n0_ := Aside0.mk (Kd.N_mono (Kd.N_told (Kd.N_told (Kd.N_old (by (with_reducible repeat (first | apply Kd.N_alloc | apply Kd.N_drewN | apply Kd.N_drew)); exact HO143.out) hb) (Kd.R_base ho0)) (Kd.R_base ho1)) (fun _ h_ => h_.1)); have n1_ := Aside0.mk (Kd.N_mono (Kd.N_told (Kd.N_told (Kd.N_old (by (with_reducible repeat (first | apply Kd.N_alloc | apply Kd.N_drewN | apply Kd.N_drew)); exact HO147.out) hb) (Kd.R_base ho0)) (Kd.R_base ho1)) (fun _ h_ => h_.1)); have n2_ := Aside0.mk (Kd.R_lower ho0 (below_size (by repeat (first | (with_reducible first | exact HB.out | apply below_alloc | apply pw_below_drewN | apply below_drew1) | exact HB.out)))); have n3_ := Aside0.mk (Kd.R_lower ho1 (below_size (by repeat (first | (with_reducible first | exact HB.out | apply below_alloc | apply pw_below_drewN | apply below_drew1) | exact HB.out)))); have n4_ := Aside0.mk (below_step (by repeat (first | (with_reducible first | exact HB.out | apply below_alloc | apply pw_below_drewN | apply below_drew1) | exact HB.out)) hb); clear HO143; clear HO147; clear HB; have HO143 := n0_; have HO147 := n1_; have HO151 := n2_; have HO153 := n3_; have HB := n4_; clear n0_ n1_ n2_ n3_ n4_; (try clear hb); (try clear hb2); (try clear hk); (try clear hi); (try clear ho0); (try clear ho1); obtain ⟨Ao24, co24, eo24⟩ := Kd.R_slice HO151.out; subst eo24; have p154 : 0 ≤ ((ji16) : Int) := of_decide_eq_true (by first | (with_reducible assumption) | assumption); have q154 : (ji16) < (t148.length : Int) := of_decide_eq_true (by first | (with_reducible assumption) | assumption); obtain ⟨ad154, e154, hx154_0⟩ := Kd.at_int (Kd.R_reads' HO151.out).2.2 (ji16) p154 q154; cases e154; replace p154 := eq_true p154; replace q154 := eq_true q154))
                go_ret
                exact ⟨by first | rfl | (simp [errW_none, errW_some] <;> rfl) | (simp only [← hji16]; first | rfl | (simp [errW_none, errW_some] <;> rfl)) | (simp [*, errW_none, errW_some] <;> rfl), by repeat (first | (with_reducible first | exact HB.out | apply below_alloc | apply pw_below_drewN | apply below_drew1) | exact HB.out)⟩
              · rw [if_neg c18] at H
                exact absurd H (by simp)
            · rw [if_neg c17] at H
              exact absurd H (by simp)
          · replace c13 := Bool.eq_false_iff.mpr c13
            subst c13
            have H1 : (some false) = some r := by rw [if_neg (show ¬ (false = true) by decide)] at H; exact H
            clear H
            have H := H1
            clear H1
            obtain rfl := Option.some.inj H
            go_wp2_with (first | ((with_reducible refine gate_callee (f := 8) rfl ?_); refine goesL_ (some 22) rfl rfl Tryd.func8 (by kernel_rfl) rfl #[.slice A0 l0.length c0] rfl (by (try simp only [List.map_toArray, List.map_cons, List.map_nil]); first | done | rfl | (simp only [List.length_drop, List.length_take]; rfl)) ?_; (with_reducible refine (stratagemlaw19_Own.calls k1 (fun k_ => k_ < w.heap.size) _ _ l0 t141 _ ?side1 A11.out).mono ?_); (case side1 => exact Kd.V_mk HC0.out (Kd.F_below (Kd.C_F k46_heap HR0.out) (by repeat (first | (with_reducible first | exact HB.out | apply below_alloc | apply pw_below_drewN | apply below_drew1) | exact HB.out)))); rintro e w25 ⟨v142, rfl, ho0, hb⟩; refine ⟨_, rfl, ?_⟩; have n0_ := Aside0.mk (Kd.N_lower (Kd.N_mono (ok' := fun k_ => True) ho0 (fun k_ hk_ => trivial)) (below_size (by repeat (first | (with_reducible first | exact HB.out | apply below_alloc | apply pw_below_drewN | apply below_drew1) | exact HB.out)))); have n1_ := Aside0.mk (below_step (by repeat (first | (with_reducible first | exact HB.out | apply below_alloc | apply pw_below_drewN | apply below_drew1) | exact HB.out)) hb); clear HB; have HO143 := n0_; have HB := n1_; clear n0_ n1_; (try clear hb); (try clear hb2); (try clear hk); (try clear hi); (try clear ho0); obtain ⟨Ao26, co26, eo26⟩ := Kd.N_slice HO143.out; subst eo26) | ((with_reducible refine gate_callee (f := 9) rfl ?_); refine goesL_ (some 23) rfl rfl Tryd.func9 (by kernel_rfl) rfl #[.slice Ao26 t141.length co26] rfl (by (try simp only [List.map_toArray, List.map_cons, List.map_nil]); first | done | rfl | (simp only [List.length_drop, List.length_take]; rfl)) ?_; (with_reducible refine (stratagemref19_May.calls k1 _ _ t141 false _ ?side1 ?side2 A12.out).mono ?_); (case side1 => repeat (first | exact (Kd.N_reads' HO143.out).2.2 | (with_reducible refine Kd.C_alloc ?_ _) | (with_reducible refine Kd.C_drewN ?_ _) | (with_reducible refine Kd.C_drew ?_))); (case side2 => exact (Kd.N_reads' HO143.out).2.1); rintro e w' ⟨rfl, ⟨nd, rfl⟩⟩; refine ⟨_, rfl, ?_⟩))
            go_ret
            exact ⟨by first | rfl | (simp [errW_none, errW_some] <;> rfl) | (simp [*, errW_none, errW_some] <;> rfl), by repeat (first | (with_reducible first | exact HB.out | apply below_alloc | apply pw_below_drewN | apply below_drew1) | exact HB.out)⟩

/-! ### stratagemref19_digits: function 37 -/
def stratagemref19_digits.f : Nat → Int → Option (ByteArray)
  | 0, _ => none
  | k + 1, a0 => if a0 < 10 then (some (strOfNums (([(wrap64 (48 + a0)) % 256] : List Int)))) else ((stratagemref19_digits.f k (wrap64 (Int.tdiv a0 10))).bind fun t158 => ((stratagemref19_digits.f k (Int.tmod a0 10)).bind fun t159 => (if t158.size + t159.size ≤ 9223372036854775807 then (some (t158 ++ t159)) else (none))))
theorem stratagemref19_digits.mono_l : ∀ k, (∀ y0, LeO (stratagemref19_digits.f k y0) (stratagemref19_digits.f (k + 1) y0))
  | 0 => fun _ r h => by simp [stratagemref19_digits.f] at h
  | k + 1 => by
    have ih0 := stratagemref19_digits.mono_l k
    · intro y0
      unfold stratagemref19_digits.f
      repeat' first
      | (with_reducible exact ih0 _)
      | (with_reducible exact LeO.refl _)
      | (with_reducible exact LeO.none _)
      | (with_reducible refine LeO.ite ?_ ?_)
      | (with_reducible refine LeO.bind ?_ (fun _ => ?_))
      | exact ih0 _
      | exact LeO.none _
      | refine LeO.ite ?_ ?_
      | refine LeO.bind ?_ (fun _ => ?_)
theorem stratagemref19_digits.mono : ∀ a0 k, LeO (stratagemref19_digits.f k a0) (stratagemref19_digits.f (k + 1) a0) := by
  intro a0 k
  have ih0 := stratagemref19_digits.mono_l k
  exact ih0 a0
set_option maxHeartbeats 8000000 in
set_option maxRecDepth 100000 in
theorem stratagemref19_digits.calls (k : Nat) : ∀ (a0 : Int) (r : ByteArray) (w : World) (h : stratagemref19_digits.f k a0 = some r),
    Calls Tryd.prog 37 #[.int .i64 a0] w fun e w' => e = .returned (.string r) ∧ Below w.heap.size w w' := by
  induction k using Nat.strongRecOn with
  | _ k ih =>
  intro a0 r w h
  cases k with
  | zero => exact absurd h (by simp [stratagemref19_digits.f])
  | succ k =>
  simp only [stratagemref19_digits.f] at h
  have HB := Aside0.mk (Below.refl w.heap.size w)
  have H : (if a0 < 10 then (some (strOfNums (([(wrap64 (48 + a0)) % 256] : List Int)))) else ((stratagemref19_digits.f k (wrap64 (Int.tdiv a0 10))).bind fun t158 => ((stratagemref19_digits.f k (Int.tmod a0 10)).bind fun t159 => (if t158.size + t159.size ≤ 9223372036854775807 then (some (t158 ++ t159)) else (none))))) = some r := h
  clear h
  by_cases c2 : a0 < 10
  · rw [if_pos c2] at H
    have c2b0 : decide (a0 < 10) = true := decide_eq_true c2
    clear c2
    obtain ⟨y155, hy155⟩ : ∃ y_ : List Int, y_ = (([(wrap64 (48 + a0)) % 256] : List Int)) := ⟨_, rfl⟩
    replace H : (some (strOfNums y155)) = some r := by first | (rw [hy155]; with_reducible exact H) | (have H2_ := (Option.bind_some _ _).symm.trans H; rw [hy155]; with_reducible exact H2_) | (have H2_ := (Option.bind_some _ _).symm.trans H; with_reducible exact H2_) | with_reducible exact H | (rw [hy155]; exact H) | exact H
    have Ny155 := Aside0.mk hy155
    clear hy155
    obtain rfl := Option.some.inj H
    go_enter Tryd.func37, Tryd.ntmps37
    go_wp2_with (first | ((with_reducible refine gate_dst (N := 8) rfl ?_); refine Kd.R_lit (Kd.int .u8) _ 5 ?hg (N := 8) ?hd (xs := ([(wrap64 (48 + a0)) % 256] : List Int)) (inner := [.int .u8 ((wrap64 (48 + a0)) % 256)]) (ok := fun _ => True) (okp := fun _ => True) ?hr ?hp (fun _ hk => hk) trivial (Below.refl _ _) (Nat.le_refl _) (by simp) ?_; (case hd => rfl); (case hg => rfl); (case hr => first | (go_simp; done) | (go_simp; rfl)); (case hp => exact (Reps.one (show Kd.M (Kd.int .u8) _ _ _ ((wrap64 (48 + a0)) % 256) [.int .u8 ((wrap64 (48 + a0)) % 256)] from rfl) (Reps.none _ _))); intro v156 w3 ho4 hb hg_ hnew_; clear hg_ hnew_; (first | rw [← Ny155.out] at ho4 | (simp only [Int.reduceToNat] at ho4; rw [← Ny155.out] at ho4)); have n0_ := Aside0.mk (Kd.R_lower ho4 (below_size (by repeat (first | (with_reducible first | exact HB.out | apply below_alloc | apply pw_below_drewN | apply below_drew1) | exact HB.out)))); have n1_ := Aside0.mk (below_step (by repeat (first | (with_reducible first | exact HB.out | apply below_alloc | apply pw_below_drewN | apply below_drew1) | exact HB.out)) hb); clear HB; have HO157 := n0_; have HB := n1_; clear n0_ n1_; clear hb ho4; have hcv5 := own_string (P := Tryd.prog) Tryd.underlying70 Tryd.underlying5 Tryd.underlying9 (Kd.own_of_R HO157.out)))
    go_ret
    exact ⟨by first | rfl | (simp [errW_none, errW_some] <;> rfl) | (simp [*, errW_none, errW_some] <;> rfl), by repeat (first | (with_reducible first | exact HB.out | apply below_alloc | apply pw_below_drewN | apply below_drew1) | exact HB.out)⟩
  · rw [if_neg c2] at H
    have c2b0 : decide (a0 < 10) = false := decide_eq_false c2
    clear c2
    replace H := Option.bind_eq_some_iff.mp H
    obtain ⟨t158, A60, H⟩ := H
    replace H : ((stratagemref19_digits.f k (Int.tmod a0 10)).bind fun t159 => (if t158.size + t159.size ≤ 9223372036854775807 then (some (t158 ++ t159)) else (none))) = some r := H
    have A6 := Aside0.mk A60
    clear A60
    replace H := Option.bind_eq_some_iff.mp H
    obtain ⟨t159, A70, H⟩ := H
    replace H : (if t158.size + t159.size ≤ 9223372036854775807 then (some (t158 ++ t159)) else (none)) = some r := H
    have A7 := Aside0.mk A70
    clear A70
    by_cases c8 : t158.size + t159.size ≤ 9223372036854775807
    · rw [if_pos c8] at H
      have c8b0 := eq_true c8
      have c8b1 : decide (t158.size + t159.size ≤ 9223372036854775807) = true := decide_eq_true c8
      try have c8b2 : (9223372036854775807 < t158.size + t159.size) = False := eq_false (Nat.not_lt.2 c8)
      obtain rfl := Option.some.inj H
      go_enter Tryd.func37, Tryd.ntmps37
      go_wp2_with (first | ((with_reducible refine gate_callee (f := 37) rfl ?_); refine goesL_ (some 12) rfl rfl Tryd.func37 (by kernel_rfl) rfl #[.int .i64 (wrap64 (Int.tdiv a0 10))] rfl (by (try simp only [List.map_toArray, List.map_cons, List.map_nil]); first | done | rfl | (simp only [List.length_drop, List.length_take]; rfl)) ?_; (with_reducible refine (ih k (by omega) (wrap64 (Int.tdiv a0 10)) t158 _ A6.out).mono ?_); rintro e w9 ⟨rfl, hb⟩; refine ⟨_, rfl, ?_⟩; have n0_ := Aside0.mk (below_step (by repeat (first | (with_reducible first | exact HB.out | apply below_alloc | apply pw_below_drewN | apply below_drew1) | exact HB.out)) hb); clear HB; have HB := n0_; clear n0_; (try clear hb); (try clear hb2); (try clear hk); (try clear hi)) | ((with_reducible refine gate_callee (f := 37) rfl ?_); refine goesL_ (some 15) rfl rfl Tryd.func37 (by kernel_rfl) rfl #[.int .i64 (Int.tmod a0 10)] rfl (by (try simp only [List.map_toArray, List.map_cons, List.map_nil]); first | done | rfl | (simp only [List.length_drop, List.length_take]; rfl)) ?_; (with_reducible refine (ih k (by omega) (Int.tmod a0 10) t159 _ A7.out).mono ?_); rintro e w10 ⟨rfl, hb⟩; refine ⟨_, rfl, ?_⟩; have n0_ := Aside0.mk (below_step (by repeat (first | (with_reducible first | exact HB.out | apply below_alloc | apply pw_below_drewN | apply below_drew1) | exact HB.out)) hb); clear HB; have HB := n0_; clear n0_; (try clear hb); (try clear hb2); (try clear hk); (try clear hi)))
      go_ret
      exact ⟨by first | rfl | (simp [errW_none, errW_some] <;> rfl) | (simp [*, errW_none, errW_some] <;> rfl), by repeat (first | (with_reducible first | exact HB.out | apply below_alloc | apply pw_below_drewN | apply below_drew1) | exact HB.out)⟩
    · rw [if_neg c8] at H
      exact absurd H (by simp)

end Go.Proofs.YtlgnogpjmdhflaaDoor.PRef
