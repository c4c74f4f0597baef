/- TreeShares: it tells true. -/
import Derived.Test.YtlgnogpjmdhflaaDoorTreeO
namespace Go.Proofs.YtlgnogpjmdhflaaDoor
open Go.RowKit Go.Proofs.YtlgnogpjmdhflaaDoorW.PrintWords Go.Proofs.YtlgnogpjmdhflaaDoorW.PrintLast Go.Proofs.YtlgnogpjmdhflaaDoorW.PrintMore Go.Proofs.YtlgnogpjmdhflaaDoor.PRef Go.Maps
set_option linter.unusedVariables false
set_option linter.unusedSimpArgs false

theorem shared_may {l s : List S46} (hm : mayB l = true) (hs : nds s = shareS l) : mayB s = true := by
  obtain ⟨h1, h2, h3⟩ := (mayB_iff l).1 hm
  have e : shareS l = TM.share (nds l) := by unfold shareS; rw [hm]; rfl
  have hl := shareS_len l
  rw [← hs, nds_length] at hl
  refine (mayB_iff s).2 ⟨by rw [hs]; exact (shareS_ok l).1, ?_, hl⟩
  have := TM.share_pos h1 (by rw [nds_length]; exact h2)
  rw [← e, ← hs, nds_length] at this
  exact this
theorem shared_again {l s : List S46} (hm : mayB l = true) (hs : nds s = shareS l) : shareS s = nds s := by
  obtain ⟨h1, h2, h3⟩ := (mayB_iff l).1 hm
  have e : shareS l = TM.share (nds l) := by unfold shareS; rw [hm]; rfl
  have e2 : shareS s = TM.share (nds s) := by unfold shareS; rw [shared_may hm hs]; rfl
  rw [e2, hs, e, TM.share_share h1 (by rw [nds_length]; exact h2)]
theorem shared_same {l s : List S46} (hm : mayB l = true) (hs : nds s = shareS l) : sameT s l = true := by
  have h1 := shared_again hm hs
  have h2 := ((mayB_iff s).1 (shared_may hm hs)).2.1
  unfold sameT
  rw [h1, hs]
  simp only [decide_true, Bool.and_true, decide_eq_true_eq]
  rw [← hs, nds_length]
  exact h2
theorem shared_up {l s : List S46} (hm : mayB l = true) (hs : nds s = shareS l) (f : Int → Int → List Int → Int) : TM.up f 0 (nds s) ((nds s).length - 1) = TM.up f 0 (nds l) ((nds l).length - 1) := by
  obtain ⟨h1, h2, h3⟩ := (mayB_iff l).1 hm
  obtain ⟨g1, g2, g3⟩ := (mayB_iff s).1 (shared_may hm hs)
  have e : shareS l = TM.share (nds l) := by unfold shareS; rw [hm]; rfl
  refine TM.up_of_T g1 h1 _ _ (by rw [nds_length]; omega) (by rw [nds_length]; omega) ?_
  rw [hs, e]
  exact TM.share_T h1 (by rw [nds_length]; exact h2)
theorem shared_size {l s : List S46} (hm : mayB l = true) (hs : nds s = shareS l) : sizeOf s = sizeOf l := by
  unfold sizeOf
  rw [hm, shared_may hm hs]
  exact shared_up hm hs _
theorem shared_depth {l s : List S46} (hm : mayB l = true) (hs : nds s = shareS l) : depthOf s = depthOf l := by
  unfold depthOf
  rw [hm, shared_may hm hs]
  exact shared_up hm hs _
theorem shared_le {l s : List S46} (hm : mayB l = true) (hs : nds s = shareS l) : s.length ≤ l.length := by
  obtain ⟨h1, h2, h3⟩ := (mayB_iff l).1 hm
  have e : shareS l = TM.share (nds l) := by unfold shareS; rw [hm]; rfl
  have := TM.share_le h1 (by rw [nds_length]; exact h2)
  rw [← e, ← hs, nds_length, nds_length] at this
  exact this
theorem shared_nodup {l s : List S46} (hs : nds s = shareS l) : s.Nodup := nodup_nds (by rw [hs]; exact (shareS_ok l).2)
theorem kids_few {s : List S46} (h : ∀ m ∈ s, Plainly m) : ∀ n ∈ s.map conv, n.f2.length < 9223372036854775807 := by
  intro n hn
  obtain ⟨m, hm, rfl⟩ := List.mem_map.1 hn
  have := (h m hm).2.2.1
  simp only [conv]
  omega
theorem wrap_small {i : Nat} (h : i < 200) : wrap64 ((i : Int) + 1) = (i : Int) + 1 := by unfold wrap64; omega
theorem mid_one {w : World} {bd : Addr} {c i : Nat} {x : List S46} (h : k46.C w (some bd) x.length x) (hi : i < x.length) (hc : x.length ≤ c) : k46.C w (some (bd.add (i * 3))) 1 [rd_T46 x (i : Int)] := by
  have h1 := Kd.C_mid (lo := i) (hi := i + 1) h (by omega) (by omega) hc
  rw [if_neg (by omega)] at h1
  have e : (x.take (i + 1)).drop i = [rd_T46 x (i : Int)] := by
    rw [List.take_succ_eq_append_getElem hi, List.drop_append_of_le_length (by rw [List.length_take]; omega), List.drop_of_length_le (by rw [List.length_take]; omega)]
    unfold rd_T46
    simp [List.getD_eq_getElem?_getD, List.getElem?_eq_getElem hi]
  rw [e] at h1
  exact h1
theorem ne_at {x : List S46} (hn : x.Nodup) {i j : Nat} (hij : j ≠ i) (hi : i < x.length) (hj : j < x.length) : [rd_T46 x (i : Int)].map conv ≠ [rd_T46 x (j : Int)].map conv := by
  intro e
  have h1 := convs_inj e
  unfold rd_T46 at h1
  simp only [Int.toNat_natCast, List.getD_eq_getElem?_getD, List.getElem?_eq_getElem hi, List.getElem?_eq_getElem hj, Option.getD_some, List.cons.injEq, and_true] at h1
  exact hij (TM.nodup_at hn hj hi h1.symm)
structure Ts (w W : World) (A B : Option Addr) (l s : List S46) : Prop where
  a : k46.C W A l.length l
  b : k46.C W B s.length s
  tab : Tab W
  below : Below w.heap.size w W
theorem Ts.step {w W W' : World} {A B : Option Addr} {l s : List S46} (h : Ts w W A B l s) (hb : Below W.heap.size W W') : Ts w W' A B l s :=
  ⟨Kd.C_below h.a hb, Kd.C_below h.b hb, h.tab.later (Nat.le_refl _) hb, h.below.trans (hb.mono h.below.size)⟩
theorem size_nomay {l : List S46} (h : mayB l = false) : sizeOf l = 0 := by unfold sizeOf; rw [h]; rfl
theorem depth_nomay {l : List S46} (h : mayB l = false) : depthOf l = 0 := by unfold depthOf; rw [h]; rfl
theorem share_nomay {l : List S46} (h : mayB l = false) : shareS l = [] := by unfold shareS; rw [h]; rfl

set_option maxHeartbeats 8000000 in
set_option maxRecDepth 100000 in
theorem shares_any (A : Option Addr) (c : Nat) (l : List S46) (w : World) (hC : k46.C w A l.length l) (hc : l.length ≤ c) (ht : Tab w) : Calls Tryd.prog 4 #[.slice A l.length c] w fun e w' => e = .returned (.bool true) ∧ Below w.heap.size w w' := by
  have hl64 : l.length ≤ 9223372036854775807 := hC.2.1
  have HC := Lib.hid hC
  have HT := Lib.hid ht
  clear hC ht
  by_cases hbig : 200 < l.length
  · have hgt : decide ((200 : Int) < (l.length : Int)) = true := decide_eq_true (by omega)
    go_enter Tryd.func4, Tryd.ntmps4
    go_wp2_with fail
    refine (awake_any w HT.out).mono ?_
    rintro e w1 ⟨rfl, hb⟩
    go_wp2
    go_ret
    exact ⟨rfl, hb⟩
  · have hgt : decide ((200 : Int) < (l.length : Int)) = false := decide_eq_false (by omega)
    go_enter Tryd.func4, Tryd.ntmps4
    go_wp2_with fail
    refine (awake_any w HT.out).mono ?_
    rintro e w1 ⟨rfl, hb1⟩
    have HC1 := Lib.hid (Kd.C_below HC.out hb1)
    have HT1 := Lib.hid (HT.out.later (Nat.le_refl _) hb1)
    have HB1 := Lib.hid hb1
    clear HC HT hb1
    go_wp2_with fail
    refine (share_any A c l w1 HC1.out hc HT1.out).mono ?_
    rintro e w2 ⟨vs, s, rfl, hs, hRs, hb2⟩
    obtain ⟨B, cs, rfl, hcs, hCs⟩ := Kd.R_reads hRs
    have hS : Ts w w2 A B l s := ⟨Kd.C_below HC1.out hb2, hCs, HT1.out.later (Nat.le_refl _) hb2, HB1.out.trans (hb2.mono HB1.out.size)⟩
    have HS := Lib.hid hS
    have hs64 : s.length ≤ 9223372036854775807 := hCs.2.1
    have HE := Lib.hid hs
    clear HC1 HT1 HB1 hs hRs hb2 hCs hS
    go_wp2_with fail
    refine (may_any A c l w2 HS.out.a hc).mono ?_
    rintro e w3 ⟨rfl, hb⟩
    replace HS := Lib.hid (HS.out.step hb)
    clear hb
    cases hm : mayB l with
    | false =>
      obtain rfl : s = [] := by
        have := HE.out
        rw [share_nomay hm] at this
        exact nds_inj (b := []) this
      have HM := Lib.hid hm
      clear hm
      go_wp2_with fail
      refine (size_any A c l w3 HS.out.a hc).mono ?_
      rintro e w4 ⟨rfl, hb⟩
      rw [size_nomay HM.out]
      replace HS := Lib.hid (HS.out.step hb)
      clear hb
      go_wp2_with fail
      refine (depth_any A c l w4 HS.out.a hc).mono ?_
      rintro e w5 ⟨rfl, hb⟩
      rw [depth_nomay HM.out]
      replace HS := Lib.hid (HS.out.step hb)
      clear hb
      go_wp2
      go_ret
      exact ⟨rfl, HS.out.below⟩
    | true =>
      have HM := Lib.hid hm
      have HMS := Lib.hid (shared_may hm HE.out)
      clear hm
      have hle := shared_le HM.out HE.out
      have hgt2 : decide ((l.length : Int) < (s.length : Int)) = false := decide_eq_false (by omega)
      go_wp2_with fail
      refine (may_any B cs s w3 HS.out.b hcs).mono ?_
      rintro e w4 ⟨rfl, hb⟩
      rw [HMS.out]
      replace HS := Lib.hid (HS.out.step hb)
      clear hb
      go_wp2_with fail
      refine (same_any s l B A cs c w4 HS.out.b hcs HS.out.a hc HS.out.tab).mono ?_
      rintro e w5 ⟨rfl, hb⟩
      rw [shared_same HM.out HE.out]
      replace HS := Lib.hid (HS.out.step hb)
      clear hb
      go_wp2_with fail
      refine (size_any B cs s w5 HS.out.b hcs).mono ?_
      rintro e w6 ⟨rfl, hb⟩
      rw [shared_size HM.out HE.out]
      replace HS := Lib.hid (HS.out.step hb)
      clear hb
      generalize hsz : sizeOf l = sz
      go_wp2_with fail
      refine (size_any A c l w6 HS.out.a hc).mono ?_
      rintro e w7 ⟨rfl, hb⟩
      rw [hsz]
      replace HS := Lib.hid (HS.out.step hb)
      clear hb hsz
      go_wp2_with fail
      refine (depth_any B cs s w7 HS.out.b hcs).mono ?_
      rintro e w8 ⟨rfl, hb⟩
      rw [shared_depth HM.out HE.out]
      replace HS := Lib.hid (HS.out.step hb)
      clear hb
      generalize hdp : depthOf l = dp
      go_wp2_with fail
      refine (depth_any A c l w8 HS.out.a hc).mono ?_
      rintro e w9 ⟨rfl, hb⟩
      rw [hdp]
      replace HS := Lib.hid (HS.out.step hb)
      clear hb hdp
      go_wp2_with fail
      refine (share_any B cs s w9 HS.out.b hcs HS.out.tab).mono ?_
      rintro e w10 ⟨vx, x, rfl, hx, hRx, hb⟩
      rw [shared_again HM.out HE.out] at hx
      obtain rfl := nds_inj hx
      obtain ⟨X, cx, rfl, hcx, hCx⟩ := Kd.R_reads hRx
      replace HS := Lib.hid (HS.out.step hb)
      have H10 := Lib.hid hCx
      clear hb hCx hRx hx
      have HPL := Lib.hid (plainly_share HE.out)
      go_wp2_with fail
      refine (own_any X cx x w10 H10.out hcx (by omega)).mono ?_
      rintro e w11 ⟨O1, c11, rfl, hc11, hC11, hb⟩
      replace HS := Lib.hid (HS.out.step hb)
      have H11 := Lib.hid hC11
      clear hb hC11 H10
      go_wp2_with fail
      refine (own_any B cs x w11 HS.out.b hcs (by omega)).mono ?_
      rintro e w12 ⟨O2, c12, rfl, hc12, hC12, hb⟩
      replace HS := Lib.hid (HS.out.step hb)
      have H12 := Lib.hid (Kd.C_below H11.out hb)
      have H13 := Lib.hid hC12
      clear hb hC12 H11
      go_wp2_with fail
      have heq := equal_any O1 O2 c11 c12 (x.map conv) (x.map conv) w12 (by rw [List.length_map]; exact H12.out) (by rw [List.length_map]; exact hc11) (by rw [List.length_map]; exact H13.out) (by rw [List.length_map]; exact hc12) (by rw [List.length_map]; omega) (kids_few HPL.out)
      rw [List.length_map] at heq
      refine heq.mono ?_
      rintro e w13 ⟨⟨qq, rfl, hqq⟩, hb⟩
      obtain rfl : qq = true := hqq.2 rfl
      replace HS := Lib.hid (HS.out.step hb)
      clear hb hqq heq H12 H13
      go_wp2_with fail
      go_loopw [4, 70] (fun _ v wr => ∃ i : Nat, i ≤ x.length ∧ v = .int .i64 i ∧ Hid (Ts w wr A B l x)) (fun _ v _ => x.length - (intOf v).toNat)
      case atStart => exact ⟨0, Nat.zero_le _, rfl, HS⟩
      case round =>
        obtain ⟨i, hi, rfl, HR⟩ := hrel
        by_cases hlt : i < x.length
        · go_wp2_with fail
          go_loopw [5, 74] (fun _ v wr => ∃ j : Nat, j ≤ i ∧ v = .int .i64 j ∧ Hid (Ts w wr A B l x)) (fun _ v _ => i - (intOf v).toNat)
          case atStart => exact ⟨0, Nat.zero_le _, rfl, HR⟩
          case round =>
            obtain ⟨j, hj, rfl, HQ⟩ := hrel
            by_cases hji : j < i
            · obtain ⟨bd, _, _, rfl, _, _, _, _, _⟩ := at_T46 HQ.out.b (i : Int) (by omega) (by omega)
              have hi200 : i < 200 := by omega
              have hj200 : j < 200 := by omega
              have hgi1 : (0 : Int) ≤ (i : Int) + 1 := by omega
              have hgi2 : (i : Int) + 1 ≤ (cs : Int) := by omega
              have hgi3 : (cs = i) = False := eq_false (by omega)
              have hgj1 : (0 : Int) ≤ (j : Int) + 1 := by omega
              have hgj2 : (j : Int) + 1 ≤ (cs : Int) := by omega
              have hgj3 : (cs = j) = False := eq_false (by omega)
              have hwi := wrap_small hi200
              have hwj := wrap_small hj200
              have hci : 1 ≤ cs - i := Nat.sub_pos_of_lt (Nat.lt_of_lt_of_le hlt hcs)
              have hcj : 1 ≤ cs - j := Nat.sub_pos_of_lt (Nat.lt_trans hji (Nat.lt_of_lt_of_le hlt hcs))
              have hmi : k46.C wr (some (bd.add (i * 3))) 1 [rd_T46 x i] := mid_one HQ.out.b hlt hcs
              have hmj : k46.C wr (some (bd.add (j * 3))) 1 [rd_T46 x j] := mid_one HQ.out.b (Nat.lt_trans hji hlt) hcs
              have hnd : [rd_T46 x i].map conv ≠ [rd_T46 x j].map conv := ne_at (shared_nodup HE.out) (Nat.ne_of_lt hji) hlt (Nat.lt_trans hji hlt)
              have hpl : ∀ n ∈ [rd_T46 x i].map conv, n.f2.length < 9223372036854775807 := kids_few (fun m hm => by
                rw [List.mem_singleton] at hm
                subst hm
                exact HPL.out _ (rd_T46_mem hlt))
              generalize rd_T46 x i = ni at hmi hnd hpl
              generalize rd_T46 x j = nj at hmj hnd
              have HMI := Lib.hid hmi
              have HMJ := Lib.hid hmj
              have HND := Lib.hid hnd
              have HPN := Lib.hid hpl
              clear hl64 hs64 hmi hmj hnd hpl
              go_wp2_with fail
              have HD := Lib.hid (HQ.out.step (below_drew (Below.refl wr.heap.size wr)))
              have HDB := Lib.hid (below_drew (Below.refl wr.heap.size wr))
              refine start_ (n := 13) (S := fun _ => True) (ds := []) #[false, false, false, false, false, false, false, false, false, false, false, false, false] (by kernel_rfl) rfl rfl trivial (fun hHeld => ?_)
              generalize wr.drew = w5 at HD HDB hHeld ⊢
              refine pure_ (i := 0) (N := some 77) (v := ?_) (a' := ?_) #[true, false, false, false, false, false, false, false, false, false, false, false, false] rfl rfl (by kernel_rfl) (fun _ _ _ h => h) (Or.inl ⟨by rfl, ?_⟩) ?_ ?_
              rotate_left
              · intro w'
                go_simp
                with_reducible rfl
              rotate_left
              · simp only [Act.put, List.setIfInBounds_toArray, List.set_cons_zero, List.set_cons_succ, i64_w, i32_w]
                rfl
              refine pure_ (i := 1) (N := some 78) (v := ?_) (a' := ?_) #[true, true, false, false, false, false, false, false, false, false, false, false, false] rfl rfl (by kernel_rfl) (fun _ _ _ h => h) (Or.inl ⟨by rfl, ?_⟩) ?_ ?_
              rotate_left
              · intro w'
                go_simp
                with_reducible rfl
              rotate_left
              · simp only [Act.put, List.setIfInBounds_toArray, List.set_cons_zero, List.set_cons_succ, i64_w, i32_w]
                rfl
              refine pure_ (i := 2) (N := some 79) (v := ?_) (a' := ?_) #[true, true, true, false, false, false, false, false, false, false, false, false, false] rfl rfl (by kernel_rfl) (fun _ _ _ h => h) (Or.inl ⟨by rfl, ?_⟩) ?_ ?_
              rotate_left
              · intro w'
                go_simp
                with_reducible rfl
              rotate_left
              · simp only [Act.put, List.setIfInBounds_toArray, List.set_cons_zero, List.set_cons_succ, i64_w, i32_w]
                rfl
              refine pure_ (i := 3) (N := some 80) (v := ?_) (a' := ?_) #[true, true, true, true, false, false, false, false, false, false, false, false, false] rfl rfl (by kernel_rfl) (fun _ _ _ h => h) (Or.inl ⟨by rfl, ?_⟩) ?_ ?_
              rotate_left
              · intro w'
                go_simp
                with_reducible rfl
              rotate_left
              · simp only [Act.put, List.setIfInBounds_toArray, List.set_cons_zero, List.set_cons_succ, i64_w, i32_w]
                rfl
              refine pure_ (i := 4) (N := some 81) (v := ?_) (a' := ?_) #[true, true, true, true, true, false, false, false, false, false, false, false, false] rfl rfl (by kernel_rfl) (fun _ _ _ h => h) (Or.inl ⟨by rfl, ?_⟩) ?_ ?_
              rotate_left
              · intro w'
                go_simp
                with_reducible rfl
              rotate_left
              · simp only [Act.put, List.setIfInBounds_toArray, List.set_cons_zero, List.set_cons_succ, i64_w, i32_w]
                rfl
              refine pure_ (i := 6) (N := some 83) (v := ?_) (a' := ?_) #[true, true, true, true, true, false, true, false, false, false, false, false, false] rfl rfl (by kernel_rfl) (fun _ _ _ h => h) (Or.inl ⟨by rfl, ?_⟩) ?_ ?_
              rotate_left
              · intro w'
                go_simp
                with_reducible rfl
              rotate_left
              · simp only [Act.put, List.setIfInBounds_toArray, List.set_cons_zero, List.set_cons_succ, i64_w, i32_w]
                rfl
              refine pure_ (i := 7) (N := some 84) (v := ?_) (a' := ?_) #[true, true, true, true, true, false, true, true, false, false, false, false, false] rfl rfl (by kernel_rfl) (fun _ _ _ h => h) (Or.inl ⟨by rfl, ?_⟩) ?_ ?_
              rotate_left
              · intro w'
                go_simp
                with_reducible rfl
              rotate_left
              · simp only [Act.put, List.setIfInBounds_toArray, List.set_cons_zero, List.set_cons_succ, i64_w, i32_w]
                rfl
              refine pure_ (i := 8) (N := some 85) (v := ?_) (a' := ?_) #[true, true, true, true, true, false, true, true, true, false, false, false, false] rfl rfl (by kernel_rfl) (fun _ _ _ h => h) (Or.inl ⟨by rfl, ?_⟩) ?_ ?_
              rotate_left
              · intro w'
                go_simp
                with_reducible rfl
              rotate_left
              · simp only [Act.put, List.setIfInBounds_toArray, List.set_cons_zero, List.set_cons_succ, i64_w, i32_w]
                rfl
              refine pure_ (i := 9) (N := some 86) (v := ?_) (a' := ?_) #[true, true, true, true, true, false, true, true, true, true, false, false, false] rfl rfl (by kernel_rfl) (fun _ _ _ h => h) (Or.inl ⟨by rfl, ?_⟩) ?_ ?_
              rotate_left
              · intro w'
                go_simp
                with_reducible rfl
              rotate_left
              · simp only [Act.put, List.setIfInBounds_toArray, List.set_cons_zero, List.set_cons_succ, i64_w, i32_w]
                rfl
              refine pure_ (i := 10) (N := some 87) (v := ?_) (a' := ?_) #[true, true, true, true, true, false, true, true, true, true, true, false, false] rfl rfl (by kernel_rfl) (fun _ _ _ h => h) (Or.inl ⟨by rfl, ?_⟩) ?_ ?_
              rotate_left
              · intro w'
                go_simp
                with_reducible rfl
              rotate_left
              · simp only [Act.put, List.setIfInBounds_toArray, List.set_cons_zero, List.set_cons_succ, i64_w, i32_w]
                rfl
              refine one_ (i := 5) (N := some 82) #[true, true, true, true, true, true, true, true, true, true, true, false, false] rfl rfl (by kernel_rfl) (by decide) (fun K hK => ?_)
              refine goes_ Tryd.func8 (by kernel_rfl) rfl #[.slice (some (bd.add (i * 3))) 1 (cs - i)] (by rfl) rfl rfl (by simp [Act.eval]) ?_
              refine (own_any (some (bd.add (i * 3))) (cs - i) [ni] w5 (Kd.C_below HMI.out HDB.out) hci (by simp)).mono ?_
              rintro e w6 ⟨P1, c1, rfl, hc1, hC1, hb6⟩
              refine ⟨_, rfl, ?_⟩
              refine hK.out _ _ trivial (fun hHeld => ?_)
              clear hK K
              refine norm_ (a' := ?_) ?_ ?_
              rotate_left
              · show Act.put _ (some 82) _ = _
                simp only [Act.put, List.setIfInBounds_toArray, List.set_cons_zero, List.set_cons_succ, i64_w, i32_w]
                try rfl
              refine one_ (i := 11) (N := some 88) #[true, true, true, true, true, true, true, true, true, true, true, true, false] rfl rfl (by kernel_rfl) (by decide) (fun K hK => ?_)
              refine goes_ Tryd.func8 (by kernel_rfl) rfl #[.slice (some (bd.add (j * 3))) 1 (cs - j)] (by rfl) rfl rfl (by simp [Act.eval]) ?_
              refine (own_any (some (bd.add (j * 3))) (cs - j) [nj] w6 (Kd.C_below (Kd.C_below HMJ.out HDB.out) hb6) hcj (by simp)).mono ?_
              rintro e w7 ⟨P2, c2, rfl, hc2, hC2, hb7⟩
              refine ⟨_, rfl, ?_⟩
              refine hK.out _ _ trivial (fun hHeld => ?_)
              clear hK K
              refine norm_ (a' := ?_) ?_ ?_
              rotate_left
              · show Act.put _ (some 88) _ = _
                simp only [Act.put, List.setIfInBounds_toArray, List.set_cons_zero, List.set_cons_succ, i64_w, i32_w]
                try rfl
              refine one_ (i := 12) (N := some 89) #[true, true, true, true, true, true, true, true, true, true, true, true, true] rfl rfl (by kernel_rfl) (by decide) (fun K hK => ?_)
              refine goes_ Tryd.func16 (by kernel_rfl) rfl #[.slice P1 1 c1, .slice P2 1 c2] (by rfl) rfl rfl (by simp [Act.eval]) ?_
              refine (equal_any P1 P2 c1 c2 ([ni].map conv) ([nj].map conv) w7 (Kd.C_below hC1 hb7) hc1 hC2 hc2 (by simp) HPN.out).mono ?_
              rintro e w8 ⟨⟨qq, rfl, hqq⟩, hb8⟩
              obtain rfl : qq = false := by
                cases qq with
                | false => rfl
                | true => exact absurd (hqq.1 rfl) HND.out
              refine ⟨_, rfl, ?_⟩
              refine hK.out _ _ trivial (fun hHeld => ?_)
              clear hK K
              refine norm_ (a' := ?_) ?_ ?_
              rotate_left
              · show Act.put _ (some 89) _ = _
                simp only [Act.put, List.setIfInBounds_toArray, List.set_cons_zero, List.set_cons_succ, i64_w, i32_w]
                try rfl
              refine done_ (by kernel_rfl) ?_
              have HQ2 := Lib.hid (HD.out.step (hb6.trans ((hb7.trans (hb8.mono hb7.size)).mono hb6.size)))
              clear hwi hwj hgi1 hgi2 hgi3 hgj1 hgj2 hgj3 hci hcj
              clear hb6 hb7 hb8 hC1 hC2 hc1 hc2 hqq HD HDB HMI HMJ HND HPN
              go_wp2
              go_roundw
              case rel => exact ⟨j + 1, by omega, by go_num, HQ2⟩
              case measure => simp [intOf]; omega
            · obtain rfl : j = i := by omega
              go_wp2
              go_roundw
              case rel => exact ⟨j + 1, by omega, by go_num, HQ⟩
              case measure => simp [intOf]; omega
        · obtain rfl : i = x.length := by omega
          go_wp2
          go_ret
          exact ⟨rfl, HR.out.below⟩
end Go.Proofs.YtlgnogpjmdhflaaDoor
