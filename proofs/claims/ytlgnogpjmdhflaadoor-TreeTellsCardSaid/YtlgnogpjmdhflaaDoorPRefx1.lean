-- PRINTED BY print.sh 35421559b90ae4d0a3588c463048766b98c2df88dd9212a6774a882060cdf62d: not written by this session
import Derived.Test.YtlgnogpjmdhflaaDoorPRefx0
namespace Go.Proofs.YtlgnogpjmdhflaaDoor.PRef
open Go.RowKit Go.Proofs.YtlgnogpjmdhflaaDoorW.PrintWords Go.Proofs.YtlgnogpjmdhflaaDoorW.PrintLast Go.Proofs.YtlgnogpjmdhflaaDoorW.PrintMore
attribute [local go_sem] max2_int min2_int max_two min_two max_three min_three max_four min_four   -- for this text's walks alone
set_option linter.unusedVariables false
set_option linter.unusedSimpArgs false

/-! ### stratagemlaw19_Own: function 8 -/
def stratagemlaw19_Own.l0 : Nat → List (S47) → List (S46) → Int → Int → Option ((List (S47)))
  | 0, _, _, _, _ => none
  | k + 1, x3, x7, x8, x9 => if x9 < x8 then (if 0 ≤ x9 then (if x9 < (x7.length : Int) then (if x3.length < 3518437208883 then (stratagemlaw19_Own.l0 k (x3 ++ [(⟨(rd_T46 x7 x9).f0, (rd_T46 x7 x9).f1, (rd_T46 x7 x9).f2⟩ : S47)]) x7 x8 (wrap64 (x9 + 1))) else (none)) else (none)) else (none)) else (some x3)
def stratagemlaw19_Own.f (k : Nat) (l0 : List (S46)) : Option ((List (S47))) := stratagemlaw19_Own.l0 k (([] : List (S47))) l0 (l0.length : Int) 0
theorem stratagemlaw19_Own.mono_l : ∀ k, (∀ y0 y1 y2 y3, LeO (stratagemlaw19_Own.l0 k y0 y1 y2 y3) (stratagemlaw19_Own.l0 (k + 1) y0 y1 y2 y3))
  | 0 => fun _ _ _ _ r h => by simp [stratagemlaw19_Own.l0] at h
  | k + 1 => by
    have ih0 := stratagemlaw19_Own.mono_l k
    · intro y0 y1 y2 y3
      unfold stratagemlaw19_Own.l0
      repeat' first
      | (with_reducible exact ih0 _ _ _ _)
      | (with_reducible exact LeO.refl _)
      | (with_reducible exact LeO.none _)
      | (with_reducible refine LeO.ite ?_ ?_)
      | (with_reducible refine LeO.bind ?_ (fun _ => ?_))
      | exact ih0 _ _ _ _
      | exact LeO.none _
      | refine LeO.ite ?_ ?_
      | refine LeO.bind ?_ (fun _ => ?_)
theorem stratagemlaw19_Own.mono : ∀ a0 k, LeO (stratagemlaw19_Own.f k a0) (stratagemlaw19_Own.f (k + 1) a0) := by
  intro a0 k
  have ih0 := stratagemlaw19_Own.mono_l k
  unfold stratagemlaw19_Own.f
  repeat' first
      | (with_reducible exact ih0 _ _ _ _)
      | (with_reducible exact LeO.refl _)
      | (with_reducible exact LeO.none _)
      | (with_reducible refine LeO.ite ?_ ?_)
      | (with_reducible refine LeO.bind ?_ (fun _ => ?_))
      | exact ih0 _ _ _ _
      | exact LeO.none _
      | refine LeO.ite ?_ ?_
      | refine LeO.bind ?_ (fun _ => ?_)
set_option maxHeartbeats 8000000 in
set_option maxRecDepth 100000 in
theorem stratagemlaw19_Own.calls (k : Nat) (P0_ : Nat → Prop) (A0 : Option Addr) (c0 : Nat) (l0 : List (S46)) (r : List (S47)) (w : World) (hs0 : Kd.V k46 46 w w.heap.size (fun k_ => P0_ k_) (.slice A0 l0.length c0) l0) (h : stratagemlaw19_Own.f k l0 = some r) :
    Calls Tryd.prog 8 #[.slice A0 l0.length c0] w fun e w' => ∃ v0_ : Value, e = .returned (v0_) ∧ Kd.N k47 47 w' w.heap.size (fun k_ => (P0_ k_ ∨ w.heap.size ≤ k_)) v0_ r ∧ Below w.heap.size w w' := by
  have hu46 := Tryd.underlying46
  have HO0 := Aside0.mk (show Kd.V k46 46 w w.heap.size (fun k_ => (P0_ k_ ∨ w.heap.size ≤ k_)) (.slice A0 l0.length c0) l0 from Kd.V_mono hs0 (fun k_ hk => .inl hk))
  have HB := Aside0.mk (Below.refl w.heap.size w)
  have H : (stratagemlaw19_Own.l0 k (([] : List (S47))) l0 (l0.length : Int) 0) = some r := h
  clear h
  obtain ⟨y101, hy101⟩ : ∃ y_ : List (S47), y_ = (([] : List (S47))) := ⟨_, rfl⟩
  replace H : (stratagemlaw19_Own.l0 k y101 l0 (l0.length : Int) 0) = some r := by first | (rw [hy101]; with_reducible exact H) | (have H2_ := (Option.bind_some _ _).symm.trans H; rw [hy101]; with_reducible exact H2_) | (have H2_ := (Option.bind_some _ _).symm.trans H; with_reducible exact H2_) | with_reducible exact H | (rw [hy101]; exact H) | exact H
  have Ny101 := Aside0.mk hy101
  clear hy101
  have H' := Aside0.mk H
  clear H
  go_enter Tryd.func8, Tryd.ntmps8
  go_wp2_with (first | ((with_reducible refine gate_dst (N := 6) rfl ?_); refine Kd.N_lit k47 _ 47 ?hg (N' := 6) ?hd (xs := ([] : List (S47))) (inner := []) (ok := (fun k_ => (P0_ k_ ∨ w.heap.size ≤ k_))) (okp := (fun k_ => (P0_ k_ ∨ w.heap.size ≤ k_))) ?hr ?hp (fun _ hk => hk) ((show ∀ k_, w.heap.size ≤ k_ → (fun k_ => (P0_ k_ ∨ w.heap.size ≤ k_)) k_ from fun k_ hk => (.inr (Nat.le_trans (below_size (by repeat (first | (with_reducible first | exact HB.out | apply below_alloc | apply pw_below_drewN | apply below_drew1) | exact HB.out))) hk))) _ (Nat.le_refl _)) (Below.refl _ _) (Nat.le_refl _) (by simp) ?_; (case hd => rfl); (case hg => rfl); (case hr => first | (go_simp; done) | (go_simp; rfl)); (case hp => exact (Reps.none _ _)); intro v102 w2 ho3 hb hg_ hnew_; clear hg_ hnew_; (first | rw [← Ny101.out] at ho3 | (simp only [Int.reduceToNat] at ho3; rw [← Ny101.out] at ho3)); have n0_ := Aside0.mk (Kd.V_elder' (by (with_reducible repeat (first | apply Kd.V_alloc | apply Kd.V_drewN | apply Kd.V_drew)); exact HO0.out) (Kd.N_base ho3) hb); have n1_ := Aside0.mk (Kd.N_lower ho3 (below_size (by repeat (first | (with_reducible first | exact HB.out | apply below_alloc | apply pw_below_drewN | apply below_drew1) | exact HB.out)))); have n2_ := Aside0.mk (below_step (by repeat (first | (with_reducible first | exact HB.out | apply below_alloc | apply pw_below_drewN | apply below_drew1) | exact HB.out)) hb); clear HO0; clear HB; have HO0 := n0_; have HO103 := n1_; have HB := n2_; clear n0_ n1_ n2_; clear hb ho3))
  go_loopg [3, 9] k (fun kq v3 v9 w' => ∃ (x3_1 : List (S47)) (x9_1 : Int), v9 = .int .i64 x9_1 ∧ Aside0 (stratagemlaw19_Own.l0 kq x3_1 l0 (l0.length : Int) x9_1 = some r) ∧ Aside0 (kq ≤ k) ∧ Aside0 (Kd.N k47 47 w' w.heap.size (fun k_ => (P0_ k_ ∨ w.heap.size ≤ k_)) v3 x3_1) ∧ Aside0 (Kd.V k46 46 w' w.heap.size (fun k_ => (P0_ k_ ∨ w.heap.size ≤ k_) ∧ some k_ ≠ (v3 : Value).ownBlock) (.slice A0 l0.length c0) l0) ∧ Aside0 (Below w.heap.size w w'))
  case atStart => exact ⟨(y101), (0), (by first | rfl | (simp; done) | (simp [*]; done)), H', ⟨Nat.le_refl _⟩, ⟨by (with_reducible repeat (first | apply Kd.N_alloc | apply Kd.N_drewN | apply Kd.N_drew)); exact HO103.out⟩, ⟨by (with_reducible repeat (first | apply Kd.V_alloc | apply Kd.V_drewN | apply Kd.V_drew)); exact HO0.out⟩, ⟨by repeat (first | (with_reducible first | exact HB.out | apply below_alloc | apply pw_below_drewN | apply below_drew1) | exact HB.out)⟩⟩
  case round =>
    clear H'
    try clear p2
    obtain ⟨x3_1, x9_1, rfl, HA, HK1, HO_3, HO_7, HB⟩ := hrel
    cases gk with
    | zero => exact absurd HA.out (by simp [stratagemlaw19_Own.l0])
    | succ k1 =>
      have H := HA.out
      clear HA
      simp only [stratagemlaw19_Own.l0] at H
      by_cases c4 : x9_1 < (l0.length : Int)
      · rw [if_pos c4] at H
        have c4b0 : decide (x9_1 < (l0.length : Int)) = true := decide_eq_true c4
        clear c4
        by_cases c5 : 0 ≤ x9_1
        · rw [if_pos c5] at H
          have c5b0 : decide (0 ≤ x9_1) = true := decide_eq_true c5
          clear c5
          by_cases c6 : x9_1 < (l0.length : Int)
          · rw [if_pos c6] at H
            have c6b0 : decide (x9_1 < (l0.length : Int)) = true := decide_eq_true c6
            clear c6
            by_cases c7 : x3_1.length < 3518437208883
            · rw [if_pos c7] at H
              have LMc7 := Aside0.mk c7
              clear c7
              obtain ⟨y106, hy106⟩ : ∃ y_ : List (S47), y_ = (x3_1 ++ [(⟨(rd_T46 l0 x9_1).f0, (rd_T46 l0 x9_1).f1, (rd_T46 l0 x9_1).f2⟩ : S47)]) := ⟨_, rfl⟩
              replace H : (stratagemlaw19_Own.l0 k1 y106 l0 (l0.length : Int) (wrap64 (x9_1 + 1))) = some r := by first | (rw [hy106]; with_reducible exact H) | (have H2_ := (Option.bind_some _ _).symm.trans H; rw [hy106]; with_reducible exact H2_) | (have H2_ := (Option.bind_some _ _).symm.trans H; with_reducible exact H2_) | with_reducible exact H | (rw [hy106]; exact H) | exact H
              have Ny106 := Aside0.mk hy106
              clear hy106
              have H' := Aside0.mk H
              clear H
              have p104 : 0 ≤ (x9_1 : Int) := of_decide_eq_true (by first | (with_reducible assumption) | assumption)
              have q104 : x9_1 < (l0.length : Int) := of_decide_eq_true (by first | (with_reducible assumption) | assumption)
              obtain ⟨ad104, A104_2, c104_2, e104, hx104_0, hx104_1, hx104_2, hl104_2, hi104_2⟩ := at_T46 (Kd.V_reads' HO_7.out).2.2 x9_1 p104 q104
              cases e104
              obtain ⟨ce104, hce104, hMe104, hcc104⟩ := Kd.V_get HO_7.out z46 x9_1 p104 (by first | exact q104 | exact of_decide_eq_true (by first | (with_reducible assumption) | assumption) | (have e_ := (Kd.V_reads' HO_7.out).1; omega))
              obtain ⟨ua104_2, uc104_2, rfl, ul104_2, ge104_2⟩ := k46_openF hMe104
              have hv104_2 := hcc104 2 _ rfl
              rw [add_field _ _ 2 (by omega)] at hv104_2
              replace hv104_2 := Option.some.inj (hv104_2.symm.trans hx104_2)
              injection hv104_2 with hva_ hvn_ hvc_
              rw [hva_] at ge104_2
              rw [hvc_] at ul104_2
              have HL104_2 := Aside0.mk (show Kd.V (Kd.int .i64) 3 _ w.heap.size _ _ ((rd_T46 l0 x9_1).f2) from Kd.V_mk ul104_2 ge104_2)
              clear hva_ hvn_ hvc_ ge104_2 ul104_2
              clear hcc104 hce104
              have HR104_2 := Aside0.mk hi104_2
              have HC104_2 := Aside0.mk hl104_2
              clear hi104_2 hl104_2
              replace p104 := eq_true p104
              replace q104 := eq_true q104
              go_wp2_with (first | ((with_reducible refine gate_dst (N := 5) rfl ?_); refine box_event ?hg (N := 5) ?hd (cs := #[.int .i64 0, .int .i64 0, .slice none 0 0]) (t := 46) ?hr ?_; (case hd => rfl); (case hg => rfl); (case hr => first | (go_simp; done) | (go_simp; rfl)); intro gb105 hg w8 hbox hb; have n0_ := Aside0.mk (Kd.N_below (Kd.N_elderB (by (with_reducible repeat (first | apply Kd.N_alloc | apply Kd.N_drewN | apply Kd.N_drew)); exact HO_3.out) gb105 (Nat.le_of_eq hg.symm)) hb); have n1_ := Aside0.mk (Kd.V_below (Kd.V_elderB (by (with_reducible repeat (first | apply Kd.V_alloc | apply Kd.V_drewN | apply Kd.V_drew)); exact HO_7.out) gb105 (Nat.le_of_eq hg.symm)) hb); have n2_ := Aside0.mk (Kd.V_below (Kd.V_elderB (by (with_reducible repeat (first | apply Kd.V_alloc | apply Kd.V_drewN | apply Kd.V_drew)); exact HL104_2.out) gb105 (Nat.le_of_eq hg.symm)) hb); have n3_ := Aside0.mk (Kd.C_below (by repeat (first | (with_reducible exact HR104_2.out) | (with_reducible refine Kd.C_alloc ?_ _) | (with_reducible refine Kd.C_drewN ?_ _) | (with_reducible refine Kd.C_drew ?_) | exact HR104_2.out)) hb); have n4_ := Aside0.mk (below_step (by repeat (first | (with_reducible first | exact HB.out | apply below_alloc | apply pw_below_drewN | apply below_drew1) | exact HB.out)) hb); have n5_ := Aside0.mk (hbox); have n6_ := Aside0.mk ((by rw [hg]; exact (below_size (by repeat (first | (with_reducible first | exact HB.out | apply below_alloc | apply pw_below_drewN | apply below_drew1) | exact HB.out))) : w.heap.size ≤ gb105)); have n7_ := Aside0.mk ((by rw [hg]; exact (below_size (by repeat (first | (with_reducible first | exact HB.out | apply below_alloc | apply pw_below_drewN | apply below_drew1) | exact HB.out))) : w.heap.size ≤ gb105)); clear HO_3; clear HO_7; clear HL104_2; clear HR104_2; clear HB; have HO_3 := n0_; have HO_7 := n1_; have HL104_2 := n2_; have HR104_2 := n3_; have HB := n4_; have BK105 := n5_; have GW105 := n6_; have GE105 := n7_; clear n0_ n1_ n2_ n3_ n4_ n5_ n6_ n7_; clear hb hbox hg; have hcz9_0 : w8.cell? ⟨gb105, 0, none⟩ = some (.int .i64 0) := (blk_cell BK105.out 0).trans rfl; have hcz9_1 : w8.cell? ⟨gb105, 1, none⟩ = some (.int .i64 0) := (blk_cell BK105.out 1).trans rfl; have hcz9_2 : w8.cell? ⟨gb105, 2, none⟩ = some (.slice none 0 0) := (blk_cell BK105.out 2).trans rfl; have hfz9_0 := blk_frozen BK105.out 0; have hfz9_1 := blk_frozen BK105.out 1; have hfz9_2 := blk_frozen BK105.out 2) | ((with_reducible refine gate_store (t := 46) (p := 5) rfl ?_); refine store_event (t := 46) (p := 5) (v := ?vo_w10) (w1 := (((w8.setCell ⟨gb105, 0, none⟩ (.int .i64 ((rd_T46 l0 x9_1).f0))).setCell ⟨gb105, 1, none⟩ (.int .i64 ((rd_T46 l0 x9_1).f1))).setCell ⟨gb105, 2, none⟩ (.slice A104_2 ((rd_T46 l0 x9_1).f2).length c104_2))) ?hg ?ho ?hn ?hr ?_; (case ho => rfl); (case hg => rfl); (case hn => rfl); (case hr => first | (go_simp; done) | (go_simp; rfl)); intro w10 hw; have n0_ : Aside0 (Kd.N k47 47 w10 w.heap.size (fun k_ => (P0_ k_ ∨ w.heap.size ≤ k_) ∧ k_ ≠ gb105) u3 x3_1) := ⟨(by rw [hw]; exact (by (with_reducible repeat (first | apply Kd.N_alloc | apply Kd.N_drewN | apply Kd.N_drew)); exact Kd.N_mono (Kd.N_far (p := ⟨gb105, 2, none⟩) (Kd.N_far (p := ⟨gb105, 1, none⟩) (Kd.N_far (p := ⟨gb105, 0, none⟩) (Kd.N_mono HO_3.out (fun k_ hk => (⟨hk, hk.2⟩ : _ ∧ k_ ≠ gb105))) (fun _ hk => hk.2) (.int .i64 ((rd_T46 l0 x9_1).f0))) (fun _ hk => hk.2) (.int .i64 ((rd_T46 l0 x9_1).f1))) (fun _ hk => hk.2) (.slice A104_2 ((rd_T46 l0 x9_1).f2).length c104_2)) (fun _ hk => ⟨hk.1.1, hk.1.2⟩)))⟩; have n1_ : Aside0 (Kd.V k46 46 w10 w.heap.size (fun k_ => (P0_ k_ ∨ w.heap.size ≤ k_) ∧ some k_ ≠ (u3 : Value).ownBlock ∧ k_ ≠ gb105) (.slice (some ad104) l0.length c0) l0) := ⟨(by rw [hw]; exact (by (with_reducible repeat (first | apply Kd.V_alloc | apply Kd.V_drewN | apply Kd.V_drew)); exact Kd.V_mono (Kd.V_far (p := ⟨gb105, 2, none⟩) (Kd.V_far (p := ⟨gb105, 1, none⟩) (Kd.V_far (p := ⟨gb105, 0, none⟩) (Kd.V_mono HO_7.out (fun k_ hk => (⟨hk, hk.2⟩ : _ ∧ k_ ≠ gb105))) (fun _ hk => hk.2) (.int .i64 ((rd_T46 l0 x9_1).f0))) (fun _ hk => hk.2) (.int .i64 ((rd_T46 l0 x9_1).f1))) (fun _ hk => hk.2) (.slice A104_2 ((rd_T46 l0 x9_1).f2).length c104_2)) (fun _ hk => ⟨hk.1.1.1, ⟨hk.1.1.2, hk.1.2⟩⟩)))⟩; have n2_ : Aside0 (Kd.V (Kd.int .i64) 3 w10 w.heap.size (fun k_ => (P0_ k_ ∨ w.heap.size ≤ k_) ∧ some k_ ≠ (u3 : Value).ownBlock ∧ k_ ≠ gb105) (.slice A104_2 ((rd_T46 l0 x9_1).f2).length c104_2) ((rd_T46 l0 x9_1).f2)) := ⟨(by rw [hw]; exact (by (with_reducible repeat (first | apply Kd.V_alloc | apply Kd.V_drewN | apply Kd.V_drew)); exact Kd.V_mono (Kd.V_far (p := ⟨gb105, 2, none⟩) (Kd.V_far (p := ⟨gb105, 1, none⟩) (Kd.V_far (p := ⟨gb105, 0, none⟩) (Kd.V_mono HL104_2.out (fun k_ hk => (⟨hk, hk.2⟩ : _ ∧ k_ ≠ gb105))) (fun _ hk => hk.2) (.int .i64 ((rd_T46 l0 x9_1).f0))) (fun _ hk => hk.2) (.int .i64 ((rd_T46 l0 x9_1).f1))) (fun _ hk => hk.2) (.slice A104_2 ((rd_T46 l0 x9_1).f2).length c104_2)) (fun _ hk => ⟨hk.1.1.1, ⟨hk.1.1.2, hk.1.2⟩⟩)))⟩; have n3_ : Aside0 (w10.heap[gb105]? = some (.cells #[.int .i64 ((rd_T46 l0 x9_1).f0), .int .i64 ((rd_T46 l0 x9_1).f1), .slice A104_2 ((rd_T46 l0 x9_1).f2).length c104_2] 46 (0, 0))) := ⟨(by rw [hw]; exact (by (with_reducible repeat (first | refine blk_drewN ?_ _ | refine blk_drew ?_ | refine blk_alloc ?_ _)); refine blk_put (cs := #[.int .i64 ((rd_T46 l0 x9_1).f0), .int .i64 ((rd_T46 l0 x9_1).f1), .slice none 0 0]) ?_ 2 _ rfl; (with_reducible repeat (first | refine blk_drewN ?_ _ | refine blk_drew ?_ | refine blk_alloc ?_ _)); refine blk_put (cs := #[.int .i64 ((rd_T46 l0 x9_1).f0), .int .i64 0, .slice none 0 0]) ?_ 1 _ rfl; (with_reducible repeat (first | refine blk_drewN ?_ _ | refine blk_drew ?_ | refine blk_alloc ?_ _)); refine blk_put (cs := #[.int .i64 0, .int .i64 0, .slice none 0 0]) ?_ 0 _ rfl; (with_reducible repeat (first | refine blk_drewN ?_ _ | refine blk_drew ?_ | refine blk_alloc ?_ _)); exact BK105.out))⟩; have n4_ : Aside0 (Below w.heap.size w w10) := ⟨(by rw [hw]; exact (by repeat (first | (with_reducible first | exact HB.out | apply below_alloc | apply pw_below_drewN | apply below_drew1 | refine below_set ?_ GE105.out) | exact HB.out)))⟩; clear hw; clear HO_3; clear HO_7; clear HL104_2; clear BK105; clear HB; have HO_3 := n0_; have HO_7 := n1_; have HL104_2 := n2_; have BK105 := n3_; have HB := n4_; clear n0_ n1_ n2_ n3_ n4_; have hcz11_0 : w10.cell? ⟨gb105, 0, none⟩ = some (.int .i64 ((rd_T46 l0 x9_1).f0)) := (blk_cell BK105.out 0).trans rfl; have hcz11_1 : w10.cell? ⟨gb105, 1, none⟩ = some (.int .i64 ((rd_T46 l0 x9_1).f1)) := (blk_cell BK105.out 1).trans rfl; have hcz11_2 : w10.cell? ⟨gb105, 2, none⟩ = some (.slice A104_2 ((rd_T46 l0 x9_1).f2).length c104_2) := (blk_cell BK105.out 2).trans rfl; have hfz11_0 := blk_frozen BK105.out 0; have hfz11_1 := blk_frozen BK105.out 1; have hfz11_2 := blk_frozen BK105.out 2) | ((with_reducible refine gate_builtin (b := .append) (xs := #[.tmp 13, .tmp 15]) rfl ?_); at_builtin; refine Kd.N_append k47 (w0 := w) w.heap.size rfl (.tmp 13) (.tmp 15) 26 47 (.agg #[(.int .i64 0), (.int .i64 0), (.slice none 0 0)]) 40 rfl Tryd.underlying26 info47 rfl (by decide) (by omega) u3 x3_1 (⟨(rd_T46 l0 x9_1).f0, (rd_T46 l0 x9_1).f1, (rd_T46 l0 x9_1).f2⟩ : S47) [.int .i64 ((rd_T46 l0 x9_1).f0), .int .i64 ((rd_T46 l0 x9_1).f1), .slice A104_2 ((rd_T46 l0 x9_1).f2).length c104_2] (fun k_ => (P0_ k_ ∨ w.heap.size ≤ k_) ∧ k_ ≠ gb105) (fun k_ => ((fun k_ => (P0_ k_ ∨ w.heap.size ≤ k_) ∧ k_ ≠ gb105)) k_ ∧ some k_ ≠ (u3 : Value).ownBlock) rfl rfl ?aP (fun _ hk => hk) ?aF ?aO ?aB ?aS ?aL ?_; (case aP => exact (k47_mkF _ _ (⟨(rd_T46 l0 x9_1).f0, (rd_T46 l0 x9_1).f1, (rd_T46 l0 x9_1).f2⟩ : S47) (Kd.V_reads' (Kd.V_mono (ok' := (fun k_ => ((fun k_ => (P0_ k_ ∨ w.heap.size ≤ k_) ∧ k_ ≠ gb105)) k_ ∧ some k_ ≠ (u3 : Value).ownBlock)) (HL104_2.out) (fun k_ hk => ⟨⟨hk.1, hk.2.2⟩, hk.2.1⟩))).2.1 (Kd.V_F (Kd.V_mono (ok' := (fun k_ => ((fun k_ => (P0_ k_ ∨ w.heap.size ≤ k_) ∧ k_ ≠ gb105)) k_ ∧ some k_ ≠ (u3 : Value).ownBlock)) (HL104_2.out) (fun k_ hk => ⟨⟨hk.1, hk.2.2⟩, hk.2.1⟩))))); (case aB => exact (by repeat (first | (with_reducible first | exact HB.out | apply below_alloc | apply pw_below_drewN | apply below_drew1 | refine below_set ?_ GE105.out) | exact HB.out))); (case aF => exact (fun k_ hk => ⟨(.inr (Nat.le_trans (below_size (by repeat (first | (with_reducible first | exact HB.out | apply below_alloc | apply pw_below_drewN | apply below_drew1 | refine below_set ?_ GE105.out) | exact HB.out))) hk)), Kd.freshB (g := gb105) (o := .cells #[.int .i64 ((rd_T46 l0 x9_1).f0), .int .i64 ((rd_T46 l0 x9_1).f1), .slice A104_2 ((rd_T46 l0 x9_1).f2).length c104_2] 46 (0, 0)) (by (with_reducible repeat (first | refine blk_drewN ?_ _ | refine blk_drew ?_ | refine blk_alloc ?_ _)); exact BK105.out) k_ hk⟩)); (case aO => exact (by (with_reducible repeat (first | apply Kd.N_alloc | apply Kd.N_drewN | apply Kd.N_drew)); exact HO_3.out)); (case aS => exact (below_size (by repeat (first | (with_reducible first | exact HB.out | apply below_alloc | apply pw_below_drewN | apply below_drew1 | refine below_set ?_ GE105.out) | exact HB.out)))); (case aL => have := LMc7.out; omega); intro v107 w12 ho hb hg hat; rw [← Ny106.out] at ho; have n0_ := Aside0.mk (Kd.V_afterv (ok := (fun k_ => (P0_ k_ ∨ w.heap.size ≤ k_) ∧ k_ ≠ gb105)) (by (with_reducible repeat (first | apply Kd.V_alloc | apply Kd.V_drewN | apply Kd.V_drew)); exact Kd.V_mono HO_7.out (fun _ hk => ⟨⟨hk.1, hk.2.2⟩, hk.2.1⟩)) hg hat); have n1_ := Aside0.mk (Kd.V_afterv (ok := (fun k_ => (P0_ k_ ∨ w.heap.size ≤ k_) ∧ k_ ≠ gb105)) (by (with_reducible repeat (first | apply Kd.V_alloc | apply Kd.V_drewN | apply Kd.V_drew)); exact Kd.V_mono HL104_2.out (fun _ hk => ⟨⟨hk.1, hk.2.2⟩, hk.2.1⟩)) hg hat); have n2_ := Aside0.mk (blk_grown (g := gb105) (o := .cells #[.int .i64 ((rd_T46 l0 x9_1).f0), .int .i64 ((rd_T46 l0 x9_1).f1), .slice A104_2 ((rd_T46 l0 x9_1).f2).length c104_2] 46 (0, 0)) (by (with_reducible repeat (first | refine blk_drewN ?_ _ | refine blk_drew ?_ | refine blk_alloc ?_ _)); exact BK105.out) hg (Kd.N_ne HO_3.out BK105.out (by decide))); have n3_ := Aside0.mk (hb); have n4_ := Aside0.mk (ho); clear HO_7; clear HL104_2; clear BK105; clear HB; clear HO_3; have HO_7 := n0_; have HL104_2 := n1_; have BK105 := n2_; have HB := n3_; have HO108 := n4_; clear n0_ n1_ n2_ n3_ n4_; clear ho hb hg hat))
              go_roundg k1
              case measure => have := HK1.out; omega
              case rel => exact ⟨(y106), (wrap64 (x9_1 + 1)), (by first | rfl | (simp; done) | (simp [*]; done)), H', ⟨by have := HK1.out; omega⟩, ⟨by (with_reducible repeat (first | apply Kd.N_alloc | apply Kd.N_drewN | apply Kd.N_drew)); exact Kd.N_mono HO108.out (fun _ hk => hk.1)⟩, ⟨by (with_reducible repeat (first | apply Kd.V_alloc | apply Kd.V_drewN | apply Kd.V_drew)); exact Kd.V_mono HO_7.out (fun _ hk => ⟨hk.1.1, hk.2⟩)⟩, ⟨by repeat (first | (with_reducible first | exact HB.out | apply below_alloc | apply pw_below_drewN | apply below_drew1 | refine below_set ?_ GE105.out) | exact HB.out)⟩⟩
            · rw [if_neg c7] at H
              exact absurd H (by simp)
          · rw [if_neg c6] at H
            exact absurd H (by simp)
        · rw [if_neg c5] at H
          exact absurd H (by simp)
      · rw [if_neg c4] at H
        have c4b0 : decide (x9_1 < (l0.length : Int)) = false := decide_eq_false c4
        clear c4
        obtain rfl := Option.some.inj H
        go_wp2
        go_ret
        exact ⟨_, by first | rfl | (simp [errW_none, errW_some] <;> rfl) | (simp [*, errW_none, errW_some] <;> rfl), by (with_reducible repeat (first | apply Kd.N_alloc | apply Kd.N_drewN | apply Kd.N_drew)); exact HO_3.out, by repeat (first | (with_reducible first | exact HB.out | apply below_alloc | apply pw_below_drewN | apply below_drew1) | exact HB.out)⟩

/-! ### stratagemref19_Fits: function 21 -/
def stratagemref19_Fits.f (a0 : Int) (a1 : Int) (a2 : Int) : Option (Bool) := if a0 = 0 then (if a1 = 0 then (if a2 = 0 then (some true) else (if a0 = 1 then (if a1 ≥ 0 then (if a1 < 64 then (if a2 = 1 then (some true) else (if a0 = 2 then (if a2 > 0 then (some (decide (a2 < 65))) else (some false)) else (some false))) else (if a0 = 2 then (if a2 > 0 then (some (decide (a2 < 65))) else (some false)) else (some false))) else (if a0 = 2 then (if a2 > 0 then (some (decide (a2 < 65))) else (some false)) else (some false))) else (if a0 = 2 then (if a2 > 0 then (some (decide (a2 < 65))) else (some false)) else (some false)))) else (if a0 = 1 then (if a1 ≥ 0 then (if a1 < 64 then (if a2 = 1 then (some true) else (if a0 = 2 then (some false) else (some false))) else (if a0 = 2 then (some false) else (some false))) else (if a0 = 2 then (some false) else (some false))) else (if a0 = 2 then (some false) else (some false)))) else (if a0 = 1 then (if a1 ≥ 0 then (if a1 < 64 then (if a2 = 1 then (some true) else (if a0 = 2 then (if a1 = 0 then (if a2 > 0 then (some (decide (a2 < 65))) else (some false)) else (some false)) else (some false))) else (if a0 = 2 then (if a1 = 0 then (if a2 > 0 then (some (decide (a2 < 65))) else (some false)) else (some false)) else (some false))) else (if a0 = 2 then (if a1 = 0 then (if a2 > 0 then (some (decide (a2 < 65))) else (some false)) else (some false)) else (some false))) else (if a0 = 2 then (if a1 = 0 then (if a2 > 0 then (some (decide (a2 < 65))) else (some false)) else (some false)) else (some false)))
set_option maxHeartbeats 8000000 in
set_option maxRecDepth 100000 in
theorem stratagemref19_Fits.calls (a0 : Int) (a1 : Int) (a2 : Int) (r : Bool) (w : World) (h : stratagemref19_Fits.f a0 a1 a2 = some r) :
    Calls Tryd.prog 21 #[.int .i64 a0, .int .i64 a1, .int .i64 a2] w fun e w' => e = .returned (.bool r) ∧ Drawn0 w w' := by
  have H : (if a0 = 0 then (if a1 = 0 then (if a2 = 0 then (some true) else (if a0 = 1 then (if a1 ≥ 0 then (if a1 < 64 then (if a2 = 1 then (some true) else (if a0 = 2 then (if a2 > 0 then (some (decide (a2 < 65))) else (some false)) else (some false))) else (if a0 = 2 then (if a2 > 0 then (some (decide (a2 < 65))) else (some false)) else (some false))) else (if a0 = 2 then (if a2 > 0 then (some (decide (a2 < 65))) else (some false)) else (some false))) else (if a0 = 2 then (if a2 > 0 then (some (decide (a2 < 65))) else (some false)) else (some false)))) else (if a0 = 1 then (if a1 ≥ 0 then (if a1 < 64 then (if a2 = 1 then (some true) else (if a0 = 2 then (some false) else (some false))) else (if a0 = 2 then (some false) else (some false))) else (if a0 = 2 then (some false) else (some false))) else (if a0 = 2 then (some false) else (some false)))) else (if a0 = 1 then (if a1 ≥ 0 then (if a1 < 64 then (if a2 = 1 then (some true) else (if a0 = 2 then (if a1 = 0 then (if a2 > 0 then (some (decide (a2 < 65))) else (some false)) else (some false)) else (some false))) else (if a0 = 2 then (if a1 = 0 then (if a2 > 0 then (some (decide (a2 < 65))) else (some false)) else (some false)) else (some false))) else (if a0 = 2 then (if a1 = 0 then (if a2 > 0 then (some (decide (a2 < 65))) else (some false)) else (some false)) else (some false))) else (if a0 = 2 then (if a1 = 0 then (if a2 > 0 then (some (decide (a2 < 65))) else (some false)) else (some false)) else (some false)))) = some r := h
  clear h
  by_cases c4 : a0 = 0
  · rw [if_pos c4] at H
    have c4b0 : (a0 == 0) = true := beq_iff_eq.mpr c4
    have c4b1 : (a0 != 0) = false := bne_eq_false_iff_eq.mpr c4
    clear c4
    by_cases c5 : a1 = 0
    · rw [if_pos c5] at H
      have c5b0 : (a1 == 0) = true := beq_iff_eq.mpr c5
      have c5b1 : (a1 != 0) = false := bne_eq_false_iff_eq.mpr c5
      clear c5
      by_cases c6 : a2 = 0
      · rw [if_pos c6] at H
        have c6b0 : (a2 == 0) = true := beq_iff_eq.mpr c6
        have c6b1 : (a2 != 0) = false := bne_eq_false_iff_eq.mpr c6
        clear c6
        obtain rfl := Option.some.inj H
        go_enter Tryd.func21, Tryd.ntmps21
        go_wp2
        go_ret
        exact ⟨by first | rfl | (simp; done) | (simp [*]; done), by repeat (first | exact Drawn0.refl _ | apply Drawn0.step)⟩
      · rw [if_neg c6] at H
        have c6b0 : (a2 == 0) = false := beq_eq_false_iff_ne.mpr c6
        have c6b1 : (a2 != 0) = true := bne_iff_ne.mpr c6
        by_cases c7 : a0 = 1
        · rw [if_pos c7] at H
          have c7b0 : (a0 == 1) = true := beq_iff_eq.mpr c7
          have c7b1 : (a0 != 1) = false := bne_eq_false_iff_eq.mpr c7
          clear c7
          by_cases c8 : a1 ≥ 0
          · rw [if_pos c8] at H
            have c8b0 : decide (0 ≤ a1) = true := decide_eq_true c8
            clear c8
            by_cases c9 : a1 < 64
            · rw [if_pos c9] at H
              have c9b0 : decide (a1 < 64) = true := decide_eq_true c9
              clear c9
              by_cases c10 : a2 = 1
              · rw [if_pos c10] at H
                have c10b0 : (a2 == 1) = true := beq_iff_eq.mpr c10
                have c10b1 : (a2 != 1) = false := bne_eq_false_iff_eq.mpr c10
                clear c10
                obtain rfl := Option.some.inj H
                go_enter Tryd.func21, Tryd.ntmps21
                go_wp2
                go_ret
                exact ⟨by first | rfl | (simp; done) | (simp [*]; done), by repeat (first | exact Drawn0.refl _ | apply Drawn0.step)⟩
              · rw [if_neg c10] at H
                have c10b0 : (a2 == 1) = false := beq_eq_false_iff_ne.mpr c10
                have c10b1 : (a2 != 1) = true := bne_iff_ne.mpr c10
                by_cases c11 : a0 = 2
                · rw [if_pos c11] at H
                  have c11b0 : (a0 == 2) = true := beq_iff_eq.mpr c11
                  have c11b1 : (a0 != 2) = false := bne_eq_false_iff_eq.mpr c11
                  clear c11
                  by_cases c12 : a2 > 0
                  · rw [if_pos c12] at H
                    have c12b0 : decide (0 < a2) = true := decide_eq_true c12
                    clear c12
                    obtain rfl := Option.some.inj H
                    go_enter Tryd.func21, Tryd.ntmps21
                    go_wp2
                    go_ret
                    exact ⟨by first | rfl | (simp; done) | (simp [*]; done), by repeat (first | exact Drawn0.refl _ | apply Drawn0.step)⟩
                  · rw [if_neg c12] at H
                    have c12b0 : decide (0 < a2) = false := decide_eq_false c12
                    clear c12
                    obtain rfl := Option.some.inj H
                    go_enter Tryd.func21, Tryd.ntmps21
                    go_wp2
                    go_ret
                    exact ⟨by first | rfl | (simp; done) | (simp [*]; done), by repeat (first | exact Drawn0.refl _ | apply Drawn0.step)⟩
                · rw [if_neg c11] at H
                  have c11b0 : (a0 == 2) = false := beq_eq_false_iff_ne.mpr c11
                  have c11b1 : (a0 != 2) = true := bne_iff_ne.mpr c11
                  obtain rfl := Option.some.inj H
                  go_enter Tryd.func21, Tryd.ntmps21
                  go_wp2
                  go_ret
                  exact ⟨by first | rfl | (simp; done) | (simp [*]; done), by repeat (first | exact Drawn0.refl _ | apply Drawn0.step)⟩
            · rw [if_neg c9] at H
              have c9b0 : decide (a1 < 64) = false := decide_eq_false c9
              clear c9
              by_cases c13 : a0 = 2
              · rw [if_pos c13] at H
                have c13b0 : (a0 == 2) = true := beq_iff_eq.mpr c13
                have c13b1 : (a0 != 2) = false := bne_eq_false_iff_eq.mpr c13
                clear c13
                by_cases c14 : a2 > 0
                · rw [if_pos c14] at H
                  have c14b0 : decide (0 < a2) = true := decide_eq_true c14
                  clear c14
                  obtain rfl := Option.some.inj H
                  go_enter Tryd.func21, Tryd.ntmps21
                  go_wp2
                  go_ret
                  exact ⟨by first | rfl | (simp; done) | (simp [*]; done), by repeat (first | exact Drawn0.refl _ | apply Drawn0.step)⟩
                · rw [if_neg c14] at H
                  have c14b0 : decide (0 < a2) = false := decide_eq_false c14
                  clear c14
                  obtain rfl := Option.some.inj H
                  go_enter Tryd.func21, Tryd.ntmps21
                  go_wp2
                  go_ret
                  exact ⟨by first | rfl | (simp; done) | (simp [*]; done), by repeat (first | exact Drawn0.refl _ | apply Drawn0.step)⟩
              · rw [if_neg c13] at H
                have c13b0 : (a0 == 2) = false := beq_eq_false_iff_ne.mpr c13
                have c13b1 : (a0 != 2) = true := bne_iff_ne.mpr c13
                obtain rfl := Option.some.inj H
                go_enter Tryd.func21, Tryd.ntmps21
                go_wp2
                go_ret
                exact ⟨by first | rfl | (simp; done) | (simp [*]; done), by repeat (first | exact Drawn0.refl _ | apply Drawn0.step)⟩
          · rw [if_neg c8] at H
            have c8b0 : decide (0 ≤ a1) = false := decide_eq_false c8
            clear c8
            by_cases c15 : a0 = 2
            · rw [if_pos c15] at H
              have c15b0 : (a0 == 2) = true := beq_iff_eq.mpr c15
              have c15b1 : (a0 != 2) = false := bne_eq_false_iff_eq.mpr c15
              clear c15
              by_cases c16 : a2 > 0
              · rw [if_pos c16] at H
                have c16b0 : decide (0 < a2) = true := decide_eq_true c16
                clear c16
                obtain rfl := Option.some.inj H
                go_enter Tryd.func21, Tryd.ntmps21
                go_wp2
                go_ret
                exact ⟨by first | rfl | (simp; done) | (simp [*]; done), by repeat (first | exact Drawn0.refl _ | apply Drawn0.step)⟩
              · rw [if_neg c16] at H
                have c16b0 : decide (0 < a2) = false := decide_eq_false c16
                clear c16
                obtain rfl := Option.some.inj H
                go_enter Tryd.func21, Tryd.ntmps21
                go_wp2
                go_ret
                exact ⟨by first | rfl | (simp; done) | (simp [*]; done), by repeat (first | exact Drawn0.refl _ | apply Drawn0.step)⟩
            · rw [if_neg c15] at H
              have c15b0 : (a0 == 2) = false := beq_eq_false_iff_ne.mpr c15
              have c15b1 : (a0 != 2) = true := bne_iff_ne.mpr c15
              obtain rfl := Option.some.inj H
              go_enter Tryd.func21, Tryd.ntmps21
              go_wp2
              go_ret
              exact ⟨by first | rfl | (simp; done) | (simp [*]; done), by repeat (first | exact Drawn0.refl _ | apply Drawn0.step)⟩
        · rw [if_neg c7] at H
          have c7b0 : (a0 == 1) = false := beq_eq_false_iff_ne.mpr c7
          have c7b1 : (a0 != 1) = true := bne_iff_ne.mpr c7
          by_cases c17 : a0 = 2
          · rw [if_pos c17] at H
            have c17b0 : (a0 == 2) = true := beq_iff_eq.mpr c17
            have c17b1 : (a0 != 2) = false := bne_eq_false_iff_eq.mpr c17
            clear c17
            by_cases c18 : a2 > 0
            · rw [if_pos c18] at H
              have c18b0 : decide (0 < a2) = true := decide_eq_true c18
              clear c18
              obtain rfl := Option.some.inj H
              go_enter Tryd.func21, Tryd.ntmps21
              go_wp2
              go_ret
              exact ⟨by first | rfl | (simp; done) | (simp [*]; done), by repeat (first | exact Drawn0.refl _ | apply Drawn0.step)⟩
            · rw [if_neg c18] at H
              have c18b0 : decide (0 < a2) = false := decide_eq_false c18
              clear c18
              obtain rfl := Option.some.inj H
              go_enter Tryd.func21, Tryd.ntmps21
              go_wp2
              go_ret
              exact ⟨by first | rfl | (simp; done) | (simp [*]; done), by repeat (first | exact Drawn0.refl _ | apply Drawn0.step)⟩
          · rw [if_neg c17] at H
            have c17b0 : (a0 == 2) = false := beq_eq_false_iff_ne.mpr c17
            have c17b1 : (a0 != 2) = true := bne_iff_ne.mpr c17
            obtain rfl := Option.some.inj H
            go_enter Tryd.func21, Tryd.ntmps21
            go_wp2
            go_ret
            exact ⟨by first | rfl | (simp; done) | (simp [*]; done), by repeat (first | exact Drawn0.refl _ | apply Drawn0.step)⟩
    · rw [if_neg c5] at H
      have c5b0 : (a1 == 0) = false := beq_eq_false_iff_ne.mpr c5
      have c5b1 : (a1 != 0) = true := bne_iff_ne.mpr c5
      by_cases c19 : a0 = 1
      · rw [if_pos c19] at H
        have c19b0 : (a0 == 1) = true := beq_iff_eq.mpr c19
        have c19b1 : (a0 != 1) = false := bne_eq_false_iff_eq.mpr c19
        clear c19
        by_cases c20 : a1 ≥ 0
        · rw [if_pos c20] at H
          have c20b0 : decide (0 ≤ a1) = true := decide_eq_true c20
          clear c20
          by_cases c21 : a1 < 64
          · rw [if_pos c21] at H
            have c21b0 : decide (a1 < 64) = true := decide_eq_true c21
            clear c21
            by_cases c22 : a2 = 1
            · rw [if_pos c22] at H
              have c22b0 : (a2 == 1) = true := beq_iff_eq.mpr c22
              have c22b1 : (a2 != 1) = false := bne_eq_false_iff_eq.mpr c22
              clear c22
              obtain rfl := Option.some.inj H
              go_enter Tryd.func21, Tryd.ntmps21
              go_wp2
              go_ret
              exact ⟨by first | rfl | (simp; done) | (simp [*]; done), by repeat (first | exact Drawn0.refl _ | apply Drawn0.step)⟩
            · rw [if_neg c22] at H
              have c22b0 : (a2 == 1) = false := beq_eq_false_iff_ne.mpr c22
              have c22b1 : (a2 != 1) = true := bne_iff_ne.mpr c22
              by_cases c23 : a0 = 2
              · rw [if_pos c23] at H
                have c23b0 : (a0 == 2) = true := beq_iff_eq.mpr c23
                have c23b1 : (a0 != 2) = false := bne_eq_false_iff_eq.mpr c23
                clear c23
                obtain rfl := Option.some.inj H
                go_enter Tryd.func21, Tryd.ntmps21
                go_wp2
                go_ret
                exact ⟨by first | rfl | (simp; done) | (simp [*]; done), by repeat (first | exact Drawn0.refl _ | apply Drawn0.step)⟩
              · rw [if_neg c23] at H
                have c23b0 : (a0 == 2) = false := beq_eq_false_iff_ne.mpr c23
                have c23b1 : (a0 != 2) = true := bne_iff_ne.mpr c23
                obtain rfl := Option.some.inj H
                go_enter Tryd.func21, Tryd.ntmps21
                go_wp2
                go_ret
                exact ⟨by first | rfl | (simp; done) | (simp [*]; done), by repeat (first | exact Drawn0.refl _ | apply Drawn0.step)⟩
          · rw [if_neg c21] at H
            have c21b0 : decide (a1 < 64) = false := decide_eq_false c21
            clear c21
            by_cases c24 : a0 = 2
            · rw [if_pos c24] at H
              have c24b0 : (a0 == 2) = true := beq_iff_eq.mpr c24
              have c24b1 : (a0 != 2) = false := bne_eq_false_iff_eq.mpr c24
              clear c24
              obtain rfl := Option.some.inj H
              go_enter Tryd.func21, Tryd.ntmps21
              go_wp2
              go_ret
              exact ⟨by first | rfl | (simp; done) | (simp [*]; done), by repeat (first | exact Drawn0.refl _ | apply Drawn0.step)⟩
            · rw [if_neg c24] at H
              have c24b0 : (a0 == 2) = false := beq_eq_false_iff_ne.mpr c24
              have c24b1 : (a0 != 2) = true := bne_iff_ne.mpr c24
              obtain rfl := Option.some.inj H
              go_enter Tryd.func21, Tryd.ntmps21
              go_wp2
              go_ret
              exact ⟨by first | rfl | (simp; done) | (simp [*]; done), by repeat (first | exact Drawn0.refl _ | apply Drawn0.step)⟩
        · rw [if_neg c20] at H
          have c20b0 : decide (0 ≤ a1) = false := decide_eq_false c20
          clear c20
          by_cases c25 : a0 = 2
          · rw [if_pos c25] at H
            have c25b0 : (a0 == 2) = true := beq_iff_eq.mpr c25
            have c25b1 : (a0 != 2) = false := bne_eq_false_iff_eq.mpr c25
            clear c25
            obtain rfl := Option.some.inj H
            go_enter Tryd.func21, Tryd.ntmps21
            go_wp2
            go_ret
            exact ⟨by first | rfl | (simp; done) | (simp [*]; done), by repeat (first | exact Drawn0.refl _ | apply Drawn0.step)⟩
          · rw [if_neg c25] at H
            have c25b0 : (a0 == 2) = false := beq_eq_false_iff_ne.mpr c25
            have c25b1 : (a0 != 2) = true := bne_iff_ne.mpr c25
            obtain rfl := Option.some.inj H
            go_enter Tryd.func21, Tryd.ntmps21
            go_wp2
            go_ret
            exact ⟨by first | rfl | (simp; done) | (simp [*]; done), by repeat (first | exact Drawn0.refl _ | apply Drawn0.step)⟩
      · rw [if_neg c19] at H
        have c19b0 : (a0 == 1) = false := beq_eq_false_iff_ne.mpr c19
        have c19b1 : (a0 != 1) = true := bne_iff_ne.mpr c19
        by_cases c26 : a0 = 2
        · rw [if_pos c26] at H
          have c26b0 : (a0 == 2) = true := beq_iff_eq.mpr c26
          have c26b1 : (a0 != 2) = false := bne_eq_false_iff_eq.mpr c26
          clear c26
          obtain rfl := Option.some.inj H
          go_enter Tryd.func21, Tryd.ntmps21
          go_wp2
          go_ret
          exact ⟨by first | rfl | (simp; done) | (simp [*]; done), by repeat (first | exact Drawn0.refl _ | apply Drawn0.step)⟩
        · rw [if_neg c26] at H
          have c26b0 : (a0 == 2) = false := beq_eq_false_iff_ne.mpr c26
          have c26b1 : (a0 != 2) = true := bne_iff_ne.mpr c26
          obtain rfl := Option.some.inj H
          go_enter Tryd.func21, Tryd.ntmps21
          go_wp2
          go_ret
          exact ⟨by first | rfl | (simp; done) | (simp [*]; done), by repeat (first | exact Drawn0.refl _ | apply Drawn0.step)⟩
  · rw [if_neg c4] at H
    have c4b0 : (a0 == 0) = false := beq_eq_false_iff_ne.mpr c4
    have c4b1 : (a0 != 0) = true := bne_iff_ne.mpr c4
    by_cases c27 : a0 = 1
    · rw [if_pos c27] at H
      have c27b0 : (a0 == 1) = true := beq_iff_eq.mpr c27
      have c27b1 : (a0 != 1) = false := bne_eq_false_iff_eq.mpr c27
      clear c27
      by_cases c28 : a1 ≥ 0
      · rw [if_pos c28] at H
        have c28b0 : decide (0 ≤ a1) = true := decide_eq_true c28
        clear c28
        by_cases c29 : a1 < 64
        · rw [if_pos c29] at H
          have c29b0 : decide (a1 < 64) = true := decide_eq_true c29
          clear c29
          by_cases c30 : a2 = 1
          · rw [if_pos c30] at H
            have c30b0 : (a2 == 1) = true := beq_iff_eq.mpr c30
            have c30b1 : (a2 != 1) = false := bne_eq_false_iff_eq.mpr c30
            clear c30
            obtain rfl := Option.some.inj H
            go_enter Tryd.func21, Tryd.ntmps21
            go_wp2
            go_ret
            exact ⟨by first | rfl | (simp; done) | (simp [*]; done), by repeat (first | exact Drawn0.refl _ | apply Drawn0.step)⟩
          · rw [if_neg c30] at H
            have c30b0 : (a2 == 1) = false := beq_eq_false_iff_ne.mpr c30
            have c30b1 : (a2 != 1) = true := bne_iff_ne.mpr c30
            by_cases c31 : a0 = 2
            · rw [if_pos c31] at H
              have c31b0 : (a0 == 2) = true := beq_iff_eq.mpr c31
              have c31b1 : (a0 != 2) = false := bne_eq_false_iff_eq.mpr c31
              clear c31
              by_cases c32 : a1 = 0
              · rw [if_pos c32] at H
                have c32b0 : (a1 == 0) = true := beq_iff_eq.mpr c32
                have c32b1 : (a1 != 0) = false := bne_eq_false_iff_eq.mpr c32
                clear c32
                by_cases c33 : a2 > 0
                · rw [if_pos c33] at H
                  have c33b0 : decide (0 < a2) = true := decide_eq_true c33
                  clear c33
                  obtain rfl := Option.some.inj H
                  go_enter Tryd.func21, Tryd.ntmps21
                  go_wp2
                  go_ret
                  exact ⟨by first | rfl | (simp; done) | (simp [*]; done), by repeat (first | exact Drawn0.refl _ | apply Drawn0.step)⟩
                · rw [if_neg c33] at H
                  have c33b0 : decide (0 < a2) = false := decide_eq_false c33
                  clear c33
                  obtain rfl := Option.some.inj H
                  go_enter Tryd.func21, Tryd.ntmps21
                  go_wp2
                  go_ret
                  exact ⟨by first | rfl | (simp; done) | (simp [*]; done), by repeat (first | exact Drawn0.refl _ | apply Drawn0.step)⟩
              · rw [if_neg c32] at H
                have c32b0 : (a1 == 0) = false := beq_eq_false_iff_ne.mpr c32
                have c32b1 : (a1 != 0) = true := bne_iff_ne.mpr c32
                obtain rfl := Option.some.inj H
                go_enter Tryd.func21, Tryd.ntmps21
                go_wp2
                go_ret
                exact ⟨by first | rfl | (simp; done) | (simp [*]; done), by repeat (first | exact Drawn0.refl _ | apply Drawn0.step)⟩
            · rw [if_neg c31] at H
              have c31b0 : (a0 == 2) = false := beq_eq_false_iff_ne.mpr c31
              have c31b1 : (a0 != 2) = true := bne_iff_ne.mpr c31
              obtain rfl := Option.some.inj H
              go_enter Tryd.func21, Tryd.ntmps21
              go_wp2
              go_ret
              exact ⟨by first | rfl | (simp; done) | (simp [*]; done), by repeat (first | exact Drawn0.refl _ | apply Drawn0.step)⟩
        · rw [if_neg c29] at H
          have c29b0 : decide (a1 < 64) = false := decide_eq_false c29
          clear c29
          by_cases c34 : a0 = 2
          · rw [if_pos c34] at H
            have c34b0 : (a0 == 2) = true := beq_iff_eq.mpr c34
            have c34b1 : (a0 != 2) = false := bne_eq_false_iff_eq.mpr c34
            clear c34
            by_cases c35 : a1 = 0
            · rw [if_pos c35] at H
              have c35b0 : (a1 == 0) = true := beq_iff_eq.mpr c35
              have c35b1 : (a1 != 0) = false := bne_eq_false_iff_eq.mpr c35
              clear c35
              by_cases c36 : a2 > 0
              · rw [if_pos c36] at H
                have c36b0 : decide (0 < a2) = true := decide_eq_true c36
                clear c36
                obtain rfl := Option.some.inj H
                go_enter Tryd.func21, Tryd.ntmps21
                go_wp2
                go_ret
                exact ⟨by first | rfl | (simp; done) | (simp [*]; done), by repeat (first | exact Drawn0.refl _ | apply Drawn0.step)⟩
              · rw [if_neg c36] at H
                have c36b0 : decide (0 < a2) = false := decide_eq_false c36
                clear c36
                obtain rfl := Option.some.inj H
                go_enter Tryd.func21, Tryd.ntmps21
                go_wp2
                go_ret
                exact ⟨by first | rfl | (simp; done) | (simp [*]; done), by repeat (first | exact Drawn0.refl _ | apply Drawn0.step)⟩
            · rw [if_neg c35] at H
              have c35b0 : (a1 == 0) = false := beq_eq_false_iff_ne.mpr c35
              have c35b1 : (a1 != 0) = true := bne_iff_ne.mpr c35
              obtain rfl := Option.some.inj H
              go_enter Tryd.func21, Tryd.ntmps21
              go_wp2
              go_ret
              exact ⟨by first | rfl | (simp; done) | (simp [*]; done), by repeat (first | exact Drawn0.refl _ | apply Drawn0.step)⟩
          · rw [if_neg c34] at H
            have c34b0 : (a0 == 2) = false := beq_eq_false_iff_ne.mpr c34
            have c34b1 : (a0 != 2) = true := bne_iff_ne.mpr c34
            obtain rfl := Option.some.inj H
            go_enter Tryd.func21, Tryd.ntmps21
            go_wp2
            go_ret
            exact ⟨by first | rfl | (simp; done) | (simp [*]; done), by repeat (first | exact Drawn0.refl _ | apply Drawn0.step)⟩
      · rw [if_neg c28] at H
        have c28b0 : decide (0 ≤ a1) = false := decide_eq_false c28
        clear c28
        by_cases c37 : a0 = 2
        · rw [if_pos c37] at H
          have c37b0 : (a0 == 2) = true := beq_iff_eq.mpr c37
          have c37b1 : (a0 != 2) = false := bne_eq_false_iff_eq.mpr c37
          clear c37
          by_cases c38 : a1 = 0
          · rw [if_pos c38] at H
            have c38b0 : (a1 == 0) = true := beq_iff_eq.mpr c38
            have c38b1 : (a1 != 0) = false := bne_eq_false_iff_eq.mpr c38
            clear c38
            by_cases c39 : a2 > 0
            · rw [if_pos c39] at H
              have c39b0 : decide (0 < a2) = true := decide_eq_true c39
              clear c39
              obtain rfl := Option.some.inj H
              go_enter Tryd.func21, Tryd.ntmps21
              go_wp2
              go_ret
              exact ⟨by first | rfl | (simp; done) | (simp [*]; done), by repeat (first | exact Drawn0.refl _ | apply Drawn0.step)⟩
            · rw [if_neg c39] at H
              have c39b0 : decide (0 < a2) = false := decide_eq_false c39
              clear c39
              obtain rfl := Option.some.inj H
              go_enter Tryd.func21, Tryd.ntmps21
              go_wp2
              go_ret
              exact ⟨by first | rfl | (simp; done) | (simp [*]; done), by repeat (first | exact Drawn0.refl _ | apply Drawn0.step)⟩
          · rw [if_neg c38] at H
            have c38b0 : (a1 == 0) = false := beq_eq_false_iff_ne.mpr c38
            have c38b1 : (a1 != 0) = true := bne_iff_ne.mpr c38
            obtain rfl := Option.some.inj H
            go_enter Tryd.func21, Tryd.ntmps21
            go_wp2
            go_ret
            exact ⟨by first | rfl | (simp; done) | (simp [*]; done), by repeat (first | exact Drawn0.refl _ | apply Drawn0.step)⟩
        · rw [if_neg c37] at H
          have c37b0 : (a0 == 2) = false := beq_eq_false_iff_ne.mpr c37
          have c37b1 : (a0 != 2) = true := bne_iff_ne.mpr c37
          obtain rfl := Option.some.inj H
          go_enter Tryd.func21, Tryd.ntmps21
          go_wp2
          go_ret
          exact ⟨by first | rfl | (simp; done) | (simp [*]; done), by repeat (first | exact Drawn0.refl _ | apply Drawn0.step)⟩
    · rw [if_neg c27] at H
      have c27b0 : (a0 == 1) = false := beq_eq_false_iff_ne.mpr c27
      have c27b1 : (a0 != 1) = true := bne_iff_ne.mpr c27
      by_cases c40 : a0 = 2
      · rw [if_pos c40] at H
        have c40b0 : (a0 == 2) = true := beq_iff_eq.mpr c40
        have c40b1 : (a0 != 2) = false := bne_eq_false_iff_eq.mpr c40
        clear c40
        by_cases c41 : a1 = 0
        · rw [if_pos c41] at H
          have c41b0 : (a1 == 0) = true := beq_iff_eq.mpr c41
          have c41b1 : (a1 != 0) = false := bne_eq_false_iff_eq.mpr c41
          clear c41
          by_cases c42 : a2 > 0
          · rw [if_pos c42] at H
            have c42b0 : decide (0 < a2) = true := decide_eq_true c42
            clear c42
            obtain rfl := Option.some.inj H
            go_enter Tryd.func21, Tryd.ntmps21
            go_wp2
            go_ret
            exact ⟨by first | rfl | (simp; done) | (simp [*]; done), by repeat (first | exact Drawn0.refl _ | apply Drawn0.step)⟩
          · rw [if_neg c42] at H
            have c42b0 : decide (0 < a2) = false := decide_eq_false c42
            clear c42
            obtain rfl := Option.some.inj H
            go_enter Tryd.func21, Tryd.ntmps21
            go_wp2
            go_ret
            exact ⟨by first | rfl | (simp; done) | (simp [*]; done), by repeat (first | exact Drawn0.refl _ | apply Drawn0.step)⟩
        · rw [if_neg c41] at H
          have c41b0 : (a1 == 0) = false := beq_eq_false_iff_ne.mpr c41
          have c41b1 : (a1 != 0) = true := bne_iff_ne.mpr c41
          obtain rfl := Option.some.inj H
          go_enter Tryd.func21, Tryd.ntmps21
          go_wp2
          go_ret
          exact ⟨by first | rfl | (simp; done) | (simp [*]; done), by repeat (first | exact Drawn0.refl _ | apply Drawn0.step)⟩
      · rw [if_neg c40] at H
        have c40b0 : (a0 == 2) = false := beq_eq_false_iff_ne.mpr c40
        have c40b1 : (a0 != 2) = true := bne_iff_ne.mpr c40
        obtain rfl := Option.some.inj H
        go_enter Tryd.func21, Tryd.ntmps21
        go_wp2
        go_ret
        exact ⟨by first | rfl | (simp; done) | (simp [*]; done), by repeat (first | exact Drawn0.refl _ | apply Drawn0.step)⟩

end Go.Proofs.YtlgnogpjmdhflaaDoor.PRef
