/- Same of tree. -/
import Derived.Test.YtlgnogpjmdhflaaDoorTreeI
namespace Go.Proofs.YtlgnogpjmdhflaaDoor
open Go.RowKit Go.Proofs.YtlgnogpjmdhflaaDoorW.PrintWords Go.Proofs.YtlgnogpjmdhflaaDoorW.PrintLast Go.Proofs.YtlgnogpjmdhflaaDoorW.PrintMore Go.Proofs.YtlgnogpjmdhflaaDoor.PRef Go.Maps
set_option linter.unusedVariables false
set_option linter.unusedSimpArgs false

open Classical in
noncomputable def sameN (n m : S46) : Bool := decide (n = m)
set_option maxHeartbeats 4000000 in
set_option maxRecDepth 100000 in
theorem alike_any (n m : S46) (A B : Option Addr) (c d : Nat) (w : World) (hn : Plainly n) (hm : Plainly m) (hC : (Kd.int .i64).C w A n.f2.length n.f2) (hc : n.f2.length ≤ c) (hD : (Kd.int .i64).C w B m.f2.length m.f2) (hd : m.f2.length ≤ d) (ht : Tab w) :
    Calls Tryd.prog 30 #[.agg #[.int .i64 n.f0, .int .i64 n.f1, .slice A n.f2.length c], .agg #[.int .i64 m.f0, .int .i64 m.f1, .slice B m.f2.length d]] w fun e w' => e = .returned (.bool (sameN n m)) ∧ Below w.heap.size w w' := by
  have HC := Lib.hid hC
  have HD := Lib.hid hD
  have HT := Lib.hid ht
  have HN := Lib.hid hn
  have HM := Lib.hid hm
  clear hC hD ht hn hm
  go_enter Tryd.func30, Tryd.ntmps30
  go_wp2_with fail
  have hb2 : Below w.heap.size w ((w.alloc (.cells #[.int .i64 n.f0, .int .i64 n.f1, .slice A n.f2.length c] 46)).alloc (.cells #[.int .i64 m.f0, .int .i64 m.f1, .slice B m.f2.length d] 46)) := below_alloc (below_alloc (Below.refl w.heap.size w) _) _
  have hx : ((w.alloc (.cells #[.int .i64 n.f0, .int .i64 n.f1, .slice A n.f2.length c] 46)).alloc (.cells #[.int .i64 m.f0, .int .i64 m.f1, .slice B m.f2.length d] 46)).heap[w.heap.size]? = some (.cells #[.int .i64 n.f0, .int .i64 n.f1, .slice A n.f2.length c] 46 (0, 0)) := by
    rw [(below_alloc (Below.refl _ _) _).block _ (by simp)]
    exact heap_alloc_new w _
  have hy : ((w.alloc (.cells #[.int .i64 n.f0, .int .i64 n.f1, .slice A n.f2.length c] 46)).alloc (.cells #[.int .i64 m.f0, .int .i64 m.f1, .slice B m.f2.length d] 46)).heap[w.heap.size + 1]? = some (.cells #[.int .i64 m.f0, .int .i64 m.f1, .slice B m.f2.length d] 46 (0, 0)) := by
    have h := heap_alloc_new (w.alloc (.cells #[.int .i64 n.f0, .int .i64 n.f1, .slice A n.f2.length c] 46)) (.cells #[.int .i64 m.f0, .int .i64 m.f1, .slice B m.f2.length d] 46)
    have e : (w.alloc (.cells #[.int .i64 n.f0, .int .i64 n.f1, .slice A n.f2.length c] 46)).heap.size = w.heap.size + 1 := by simp
    rw [e] at h
    exact h
  generalize ((w.alloc (.cells #[.int .i64 n.f0, .int .i64 n.f1, .slice A n.f2.length c] 46)).alloc (.cells #[.int .i64 m.f0, .int .i64 m.f1, .slice B m.f2.length d] 46)) = W2 at hb2 hx hy ⊢
  have HB := Lib.hid (below_drew hb2)
  have hc0 : W2.drew.cell? ⟨w.heap.size, 0, none⟩ = some (.int .i64 n.f0) := by have h : W2.drew.heap[w.heap.size]? = _ := hx; rw [cell_of_row _ _ 0 _ _ _ h]; rfl
  have hc1 : W2.drew.cell? ⟨w.heap.size, 1, none⟩ = some (.int .i64 n.f1) := by have h : W2.drew.heap[w.heap.size]? = _ := hx; rw [cell_of_row _ _ 1 _ _ _ h]; rfl
  have hc2 : W2.drew.cell? ⟨w.heap.size, 2, none⟩ = some (.slice A n.f2.length c) := by have h : W2.drew.heap[w.heap.size]? = _ := hx; rw [cell_of_row _ _ 2 _ _ _ h]; rfl
  have hd0 : W2.drew.cell? ⟨w.heap.size + 1, 0, none⟩ = some (.int .i64 m.f0) := by have h : W2.drew.heap[w.heap.size + 1]? = _ := hy; rw [cell_of_row _ _ 0 _ _ _ h]; rfl
  have hd1 : W2.drew.cell? ⟨w.heap.size + 1, 1, none⟩ = some (.int .i64 m.f1) := by have h : W2.drew.heap[w.heap.size + 1]? = _ := hy; rw [cell_of_row _ _ 1 _ _ _ h]; rfl
  have hd2 : W2.drew.cell? ⟨w.heap.size + 1, 2, none⟩ = some (.slice B m.f2.length d) := by have h : W2.drew.heap[w.heap.size + 1]? = _ := hy; rw [cell_of_row _ _ 2 _ _ _ h]; rfl
  clear hx hy hb2
  refine start_ (n := 6) (S := fun w' => w'.cell? ⟨w.heap.size, 0, none⟩ = some (.int .i64 n.f0) ∧ w'.cell? ⟨w.heap.size, 1, none⟩ = some (.int .i64 n.f1) ∧ w'.cell? ⟨w.heap.size, 2, none⟩ = some (.slice A n.f2.length c) ∧ w'.cell? ⟨w.heap.size + 1, 0, none⟩ = some (.int .i64 m.f0) ∧ w'.cell? ⟨w.heap.size + 1, 1, none⟩ = some (.int .i64 m.f1) ∧ w'.cell? ⟨w.heap.size + 1, 2, none⟩ = some (.slice B m.f2.length d)) (ds := []) #[false, false, false, false, false, false] (by kernel_rfl) rfl rfl ⟨hc0, hc1, hc2, hd0, hd1, hd2⟩ (fun hHeld => ?_)
  generalize W2.drew = w3 at HB hc0 hc1 hc2 hd0 hd1 hd2 hHeld ⊢
  refine take_ (i := 0) (N := some 5) (v := ?_) (a' := ?_) #[true, false, false, false, false, false] rfl rfl (by kernel_rfl) (fun _ _ _ h => h) (Or.inl ⟨by rfl, ?_⟩) hHeld ?_ ?_
  rotate_left
  · rintro w' ⟨s0, s1, s2, s3, s4, s5⟩
    go_simp
    with_reducible rfl
  rotate_left
  · simp only [Act.put, List.setIfInBounds_toArray, List.set_cons_zero, List.set_cons_succ, i64_w, i32_w]
    rfl
  refine take_ (i := 2) (N := some 7) (v := ?_) (a' := ?_) #[true, false, true, false, false, false] rfl rfl (by kernel_rfl) (fun _ _ _ h => h) (Or.inl ⟨by rfl, ?_⟩) hHeld ?_ ?_
  rotate_left
  · rintro w' ⟨s0, s1, s2, s3, s4, s5⟩
    go_simp
    with_reducible rfl
  rotate_left
  · simp only [Act.put, List.setIfInBounds_toArray, List.set_cons_zero, List.set_cons_succ, i64_w, i32_w]
    rfl
  refine one_ (i := 1) (N := some 6) #[true, true, true, false, false, false] rfl rfl (by kernel_rfl) (by decide) (fun K hK => ?_)
  refine goes_ Tryd.func31 (by kernel_rfl) rfl #[.agg #[.int .i64 n.f0, .int .i64 n.f1, .slice A n.f2.length c]] (by rfl) rfl rfl (by first | rfl | kernel_rfl | simp [Act.eval]) ?_
  refine (text_any n A c w3 HN.out (Kd.C_below HC.out HB.out) hc (HT.out.later (Nat.le_refl _) HB.out)).mono ?_
  rintro e w4 ⟨rfl, hb4⟩
  refine ⟨_, rfl, ?_⟩
  have hB4 : Below w.heap.size w w4 := HB.out.trans (hb4.mono HB.out.size)
  refine hK.out _ _ ⟨pw_cell_below hb4 hc0, pw_cell_below hb4 hc1, pw_cell_below hb4 hc2, pw_cell_below hb4 hd0, pw_cell_below hb4 hd1, pw_cell_below hb4 hd2⟩ (fun hHeld => ?_)
  clear hK K
  refine norm_ (a' := ?_) ?_ ?_
  rotate_left
  · show Act.put _ (some 6) _ = _
    simp only [Act.put, List.setIfInBounds_toArray, List.set_cons_zero, List.set_cons_succ, i64_w, i32_w]
    try rfl
  refine one_ (i := 3) (N := some 8) #[true, true, true, true, false, false] rfl rfl (by kernel_rfl) (by decide) (fun K hK => ?_)
  refine goes_ Tryd.func31 (by kernel_rfl) rfl #[.agg #[.int .i64 m.f0, .int .i64 m.f1, .slice B m.f2.length d]] (by rfl) rfl rfl (by first | rfl | kernel_rfl | simp [Act.eval]) ?_
  refine (text_any m B d w4 HM.out (Kd.C_below HD.out hB4) hd (HT.out.later (Nat.le_refl _) hB4)).mono ?_
  rintro e w5 ⟨rfl, hb5⟩
  refine ⟨_, rfl, ?_⟩
  have hB5 : Below w.heap.size w w5 := hB4.trans (hb5.mono hB4.size)
  refine hK.out _ _ ⟨pw_cell_below (hb4.trans (hb5.mono hb4.size)) hc0, pw_cell_below (hb4.trans (hb5.mono hb4.size)) hc1, pw_cell_below (hb4.trans (hb5.mono hb4.size)) hc2, pw_cell_below (hb4.trans (hb5.mono hb4.size)) hd0, pw_cell_below (hb4.trans (hb5.mono hb4.size)) hd1, pw_cell_below (hb4.trans (hb5.mono hb4.size)) hd2⟩ (fun hHeld => ?_)
  clear hK K
  refine norm_ (a' := ?_) ?_ ?_
  rotate_left
  · show Act.put _ (some 8) _ = _
    simp only [Act.put, List.setIfInBounds_toArray, List.set_cons_zero, List.set_cons_succ, i64_w, i32_w]
    try rfl
  refine pure_ (i := 4) (N := some 9) (v := ?_) (a' := ?_) #[true, true, true, true, true, false] rfl rfl (by kernel_rfl) (fun _ _ _ h => h) (Or.inl ⟨by rfl, ?_⟩) ?_ ?_
  rotate_left
  · intro w'
    go_simp
    with_reducible rfl
  rotate_left
  · simp only [Act.put, List.setIfInBounds_toArray, List.set_cons_zero, List.set_cons_succ, i64_w, i32_w]
    rfl
  refine pure_ (i := 5) (N := some 4) (v := ?_) (a' := ?_) #[true, true, true, true, true, true] rfl rfl (by kernel_rfl) (fun _ _ _ h => h) (Or.inl ⟨by rfl, ?_⟩) ?_ ?_
  rotate_left
  · intro w'
    go_simp
    with_reducible rfl
  rotate_left
  · simp only [Act.put, List.setIfInBounds_toArray, List.set_cons_zero, List.set_cons_succ, i64_w, i32_w]
    rfl
  refine done_ (by kernel_rfl) ?_
  have hs : (txt n == txt m) = sameN n m := by
    unfold sameN
    by_cases h : n = m
    · subst h; simp
    · have h2 : txt n ≠ txt m := fun e => h (txt_inj HN.out HM.out e)
      simp [h, h2]
  clear HC HD HT HN HM HB hHeld hc0 hc1 hc2 hd0 hd1 hd2 hb4 hb5 hB4
  go_wp2
  go_ret
  exact ⟨by rw [← hs]; rfl, hB5⟩

open Classical in
noncomputable def sameL (a b : List S46) : Bool := decide (a = b)
theorem sameL_len {a b : List S46} (h : a.length ≠ b.length) : sameL a b = false := by
  simp only [sameL, decide_eq_false_iff_not]
  exact fun e => h (by rw [e])
theorem sameL_at {a b : List S46} {j : Nat} (hj : j < a.length) (hb : j < b.length) (h : sameN (rd_T46 a j) (rd_T46 b j) = false) : sameL a b = false := by
  simp only [sameL, decide_eq_false_iff_not]
  intro e
  subst e
  unfold sameN at h
  simp at h
theorem sameL_all {a b : List S46} (hl : a.length = b.length) (h : ∀ j : Nat, j < a.length → sameN (rd_T46 a j) (rd_T46 b j) = true) : sameL a b = true := by
  simp only [sameL, decide_eq_true_eq]
  refine List.ext_getElem hl fun j h1 h2 => ?_
  have := h j h1
  unfold sameN rd_T46 at this
  simpa [List.getD_eq_getElem?_getD, List.getElem?_eq_getElem h1, List.getElem?_eq_getElem h2] using this
theorem rd_T46_mem {l : List S46} {j : Nat} (h : j < l.length) : rd_T46 l j ∈ l := by
  unfold rd_T46
  simp [List.getD_eq_getElem?_getD, List.getElem?_eq_getElem h]

set_option maxHeartbeats 4000000 in
set_option maxRecDepth 100000 in
theorem equalFunc_any (l1 l2 : List S46) (A B : Option Addr) (c d : Nat) (w : World) (hp1 : ∀ m ∈ l1, Plainly m) (hp2 : ∀ m ∈ l2, Plainly m) (hC : k46.C w A l1.length l1) (hc : l1.length ≤ c) (hD : k46.C w B l2.length l2) (hd : l2.length ≤ d) (ht : Tab w) :
    Calls Tryd.prog 32 #[.slice A l1.length c, .slice B l2.length d, .func (.func 30) #[] #[]] w fun e w' => e = .returned (.bool (sameL l1 l2)) ∧ Below w.heap.size w w' := by
  have hm1 : l1.length ≤ 9223372036854775807 := hC.2.1
  have hm2 : l2.length ≤ 9223372036854775807 := hD.2.1
  have HC := Lib.hid hC
  have HD := Lib.hid hD
  have HT := Lib.hid ht
  have HP1 := Lib.hid hp1
  have HP2 := Lib.hid hp2
  clear hC hD ht hp1 hp2
  by_cases hl : l1.length = l2.length
  · have HL := Lib.hid hl
    have hne : ((l1.length : Int) != (l2.length : Int)) = false := by simp [hl]
    clear hl
    go_enter Tryd.func32, Tryd.ntmps32
    go_wp2_with fail
    go_loopw [17] (fun v wr => ∃ j : Nat, j ≤ l1.length ∧ v = .int .i64 j ∧ Below w.heap.size w wr ∧ Hid (∀ i : Nat, i < j → sameN (rd_T46 l1 i) (rd_T46 l2 i) = true)) (fun v _ => l1.length - (intOf v).toNat)
    case atStart => exact ⟨0, Nat.zero_le _, rfl, Below.refl _ _, Lib.hid (fun i hi => by omega)⟩
    case round =>
      obtain ⟨j, hj, rfl, hB, HA⟩ := hrel
      by_cases hlt : j < l1.length
      · obtain ⟨ad, A2, c2, rfl, hn0, hn1, hn2, hlk, hik⟩ := at_T46 HC.out (j : Int) (by omega) (by omega)
        have hjl2 : (j : Int) < (l2.length : Int) := by have := HL.out; omega
        obtain ⟨bd, B2, d2, rfl, gn0, gn1, gn2, glk, gik⟩ := at_T46 HD.out (j : Int) (by omega) hjl2
        simp only [Int.toNat_natCast] at hn0 hn1 hn2 gn0 gn1 gn2
        replace hn0 := (hB.cell (World.block_lt_of_cell? w _ hn0)).trans hn0
        replace hn1 := (hB.cell (World.block_lt_of_cell? w _ hn1)).trans hn1
        replace hn2 := (hB.cell (World.block_lt_of_cell? w _ hn2)).trans hn2
        replace gn0 := (hB.cell (World.block_lt_of_cell? w _ gn0)).trans gn0
        replace gn1 := (hB.cell (World.block_lt_of_cell? w _ gn1)).trans gn1
        replace gn2 := (hB.cell (World.block_lt_of_cell? w _ gn2)).trans gn2
        have hgl := World.block_lt_of_cell? wr _ gn0
        have hgl1 := World.block_lt_of_cell? wr _ gn1
        have hal := World.block_lt_of_cell? wr _ hn0
        have hq1 := rd_T46_mem hlt
        have hq2 := rd_T46_mem (show j < l2.length by omega)
        have hsa := fun h => sameL_at (a := l1) (b := l2) (j := j) hlt (by omega) h
        have hA2 : sameN (rd_T46 l1 j) (rd_T46 l2 j) = true → ∀ i : Nat, i < j + 1 → sameN (rd_T46 l1 i) (rd_T46 l2 i) = true := fun h i hi => by
          rcases Nat.lt_or_eq_of_le (Nat.le_of_lt_succ hi) with h' | rfl
          · exact HA.out i h'
          · exact h
        generalize rd_T46 l1 j = n at *
        generalize rd_T46 l2 j = m at *
        have HIK := Lib.hid hik
        have GIK := Lib.hid gik
        have HQ1 := Lib.hid (HP1.out n hq1)
        have HQ2 := Lib.hid (HP2.out m hq2)
        have HSA := Lib.hid hsa
        have HA2 := Lib.hid hA2
        clear hik gik hq1 hq2 hsa hA2
        go_wp2_with fail
        have hb2 := (hB.alloc hB.size (.cells #[.int .i64 n.f0, .int .i64 n.f1, .slice A2 n.f2.length c2] 46)).alloc (by simp; have := hB.size; omega) (.cells #[.int .i64 m.f0, .int .i64 m.f1, .slice B2 m.f2.length d2] 46)
        generalize (wr.alloc (.cells #[.int .i64 n.f0, .int .i64 n.f1, .slice A2 n.f2.length c2] 46)).alloc (.cells #[.int .i64 m.f0, .int .i64 m.f1, .slice B2 m.f2.length d2] 46) = W2 at hb2 ⊢
        refine (alike_any n m A2 B2 c2 d2 W2 HQ1.out HQ2.out (Kd.C_below HIK.out hb2) hlk (Kd.C_below GIK.out hb2) glk (HT.out.later (Nat.le_refl _) hb2)).mono ?_
        rintro e w3 ⟨rfl, hb3⟩
        have hb4 : Below w.heap.size w w3 := hb2.trans (hb3.mono hb2.size)
        cases hsn : sameN n m with
        | false =>
          have hr := HSA.out hsn
          clear hb2 hb3 hsn hn0 hn1 hn2 gn0 gn1 gn2
          go_wp2
          go_ret
          exact ⟨by rw [hr]; rfl, hb4⟩
        | true =>
          have hr := Lib.hid (HA2.out hsn)
          clear hb2 hb3 hsn hn0 hn1 hn2 gn0 gn1 gn2
          go_wp2
          go_roundw
          case rel =>
            exact ⟨j + 1, by omega, by go_num, hb4, hr⟩
          case measure => simp [intOf]; omega
      · obtain rfl : j = l1.length := by omega
        have hr := sameL_all HL.out HA.out
        go_wp2
        go_ret
        exact ⟨by rw [hr]; rfl, hB⟩
  · have hne : ((l1.length : Int) != (l2.length : Int)) = true := bne_iff_ne.2 (by omega)
    have hs := sameL_len hl
    clear hl
    go_enter Tryd.func32, Tryd.ntmps32
    go_wp2
    go_ret
    exact ⟨by rw [hs]; rfl, Below.refl _ _⟩

theorem shareS_len (l : List S46) : (shareS l).length ≤ 100000 := by
  unfold shareS
  split
  · rename_i h
    obtain ⟨h1, h2, h3⟩ := (mayB_iff l).1 h
    have := TM.share_le h1 (by rw [nds_length]; exact h2)
    rw [nds_length] at this
    omega
  · simp
theorem shareS_ok (l : List S46) : TM.Ok (shareS l) := by
  unfold shareS
  split
  · rename_i h
    obtain ⟨h1, h2, h3⟩ := (mayB_iff l).1 h
    exact TM.share_ok h1 (by rw [nds_length]; exact h2)
  · exact TM.Ok.nil
open Classical in
noncomputable def sameT (a b : List S46) : Bool := decide (0 < (shareS a).length) && decide (shareS a = shareS b)
theorem sameT_of {a b x y : List S46} (hx : nds x = shareS a) (hy : nds y = shareS b) : sameT a b = (decide (0 < x.length) && sameL x y) := by
  have h1 : (shareS a).length = x.length := by rw [← hx, nds_length]
  unfold sameT sameL
  rw [h1, ← hx, ← hy]
  congr 1
  simp only [decide_eq_decide]
  exact ⟨nds_inj, fun h => by rw [h]⟩
theorem plainly_share {l x : List S46} (hx : nds x = shareS l) : ∀ m ∈ x, Plainly m := by
  refine plainly_all (by rw [hx]; exact (shareS_ok l).1) ?_
  have := shareS_len l
  rw [← hx, nds_length] at this
  omega

set_option maxHeartbeats 4000000 in
set_option maxRecDepth 100000 in
theorem same_any (a b : List S46) (A B : Option Addr) (c d : Nat) (w : World) (hC : k46.C w A a.length a) (hc : a.length ≤ c) (hD : k46.C w B b.length b) (hd : b.length ≤ d) (ht : Tab w) :
    Calls Tryd.prog 15 #[.slice A a.length c, .slice B b.length d] w fun e w' => e = .returned (.bool (sameT a b)) ∧ Below w.heap.size w w' := by
  have HC := Lib.hid hC
  have HD := Lib.hid hD
  have HT := Lib.hid ht
  clear hC hD ht
  go_enter Tryd.func15, Tryd.ntmps15
  go_wp2_with fail
  refine (share_any A c a w HC.out hc HT.out).mono ?_
  rintro e w1 ⟨v1, x, rfl, hx, hR1, hb1⟩
  have HX := Lib.hid hx
  have HR1 := Lib.hid hR1
  have HB1 := Lib.hid hb1
  clear hx hR1 hb1
  go_wp2_with fail
  refine (share_any B d b w1 (Kd.C_below HD.out HB1.out) hd (HT.out.later (Nat.le_refl _) HB1.out)).mono ?_
  rintro e w2 ⟨v2, y, rfl, hy, hR2, hb2⟩
  have hR1' := Kd.R_below HR1.out hb2
  have hb := HB1.out.trans (hb2.mono HB1.out.size)
  obtain ⟨X, cx, rfl, hcx, hCX⟩ := Kd.R_reads hR1'
  obtain ⟨Y, cy, rfl, hcy, hCY⟩ := Kd.R_reads hR2
  have HCX := Lib.hid hCX
  have HCY := Lib.hid hCY
  have HY := Lib.hid hy
  have hxl : x.length ≤ 9223372036854775807 := hCX.2.1
  have HB := Lib.hid hb
  have HS := Lib.hid (sameT_of HX.out hy)
  clear hR1' hR2 hb2 hCX hCY hy hb HR1
  by_cases h0 : 0 < x.length
  · have hgt : decide ((0 : Int) < (x.length : Int)) = true := decide_eq_true (by omega)
    go_wp2_with fail
    refine (equalFunc_any x y X Y cx cy w2 (plainly_share HX.out) (plainly_share HY.out) HCX.out hcx HCY.out hcy (HT.out.later (Nat.le_refl _) HB.out)).mono ?_
    rintro e w3 ⟨rfl, hb3⟩
    have HS2 := Lib.hid (show sameT a b = sameL x y by rw [HS.out, decide_eq_true h0, Bool.true_and])
    have HB3 := Lib.hid (HB.out.trans (hb3.mono HB.out.size))
    clear hb3
    go_wp2
    go_ret
    exact ⟨by rw [HS2.out]; rfl, HB3.out⟩
  · have hgt : decide ((0 : Int) < (x.length : Int)) = false := decide_eq_false (by omega)
    have HS2 := Lib.hid (show sameT a b = false by rw [HS.out, decide_eq_false h0, Bool.false_and])
    go_wp2
    go_ret
    exact ⟨by rw [HS2.out]; rfl, HB.out⟩
end Go.Proofs.YtlgnogpjmdhflaaDoor
