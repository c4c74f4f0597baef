/- TreeTells: what it asks, in plain words, and what it carries; it tells true. -/
import Derived.Test.YtlgnogpjmdhflaaDoorTreeZ
import Derived.Test.YtlgnogpjmdhflaaDoorTreeO
import Derived.Deep.Cut
import Derived.Deep.CutBlock
import Derived.Deep.DeepCutAuto
namespace Go.Proofs.YtlgnogpjmdhflaaDoor
open Go.RowKit Go.Proofs.YtlgnogpjmdhflaaDoorW.PrintWords Go.Proofs.YtlgnogpjmdhflaaDoorW.PrintLast Go.Proofs.YtlgnogpjmdhflaaDoorW.PrintMore Go.Proofs.YtlgnogpjmdhflaaDoor.PRef Go.Maps
set_option linter.unusedVariables false
set_option linter.unusedSimpArgs false

/-- Trees that are there to be read: the program's, and the document's. -/
structure Vs (w W : World) (fs gs : List (Option Addr × List S46)) : Prop where
  c : ∀ f ∈ fs, k46.C W f.1 f.2.length f.2
  d : ∀ f ∈ gs, k47.C W f.1 f.2.length (f.2.map conv)
  tab : Tab W
  below : Below w.heap.size w W
section
variable {w W W' : World} {fs gs : List (Option Addr × List S46)} {A : Option Addr} {l : List S46}
theorem Vs.step (h : Vs w W fs gs) (hb : Below W.heap.size W W') : Vs w W' fs gs :=
  ⟨fun f hf => Kd.C_below (h.c f hf) hb, fun f hf => Kd.C_below (h.d f hf) hb, h.tab.later (Nat.le_refl _) hb, h.below.trans (hb.mono h.below.size)⟩
theorem Vs.add (h : Vs w W fs gs) (hC : k46.C W A l.length l) : Vs w W ((A, l) :: fs) gs :=
  ⟨fun f hf => by
    rcases List.mem_cons.1 hf with rfl | hf
    · exact hC
    · exact h.c f hf, h.d, h.tab, h.below⟩
theorem Vs.add7 (h : Vs w W fs gs) (hC : k47.C W A l.length (l.map conv)) : Vs w W fs ((A, l) :: gs) :=
  ⟨h.c, fun f hf => by
    rcases List.mem_cons.1 hf with rfl | hf
    · exact hC
    · exact h.d f hf, h.tab, h.below⟩
theorem Vs.get (h : Vs w W fs gs) (hm : (A, l) ∈ fs) : k46.C W A l.length l := h.c _ hm
theorem Vs.get7 (h : Vs w W fs gs) (hm : (A, l) ∈ gs) : k47.C W A l.length (l.map conv) := h.d _ hm
end
theorem C7_two {w : World} {A B : Option Addr} {c m n : Nat} {x y : List S46} (h : w.heap[c]? = some (.cells #[.slice A x.length m, .slice B y.length n] 26 (0, 0))) (hx : k47.C w A x.length (x.map conv)) (hm : x.length ≤ m) (hy : k47.C w B y.length (y.map conv)) (hn : y.length ≤ n) : kT7.C w (some ⟨c, 0, none⟩) 2 (conv2 [x, y]) := by
  refine C_lit kT7 h (conv2 [x, y]) (by simp [conv2]) ?_
  rintro (_ | _ | j) p hj
  · cases hj; exact ⟨A, m, by rw [List.length_map]; rfl, by rw [List.length_map]; exact hm, by rw [List.length_map]; exact hx⟩
  · cases hj; exact ⟨B, n, by rw [List.length_map]; rfl, by rw [List.length_map]; exact hn, by rw [List.length_map]; exact hy⟩
  · simp [conv2] at hj
theorem C7_single {w : World} {A : Option Addr} {c m : Nat} {x : List S46} (h : w.heap[c]? = some (.cells #[.slice A x.length m] 26 (0, 0))) (hx : k47.C w A x.length (x.map conv)) (hm : x.length ≤ m) : kT7.C w (some ⟨c, 0, none⟩) 1 (conv2 [x]) := by
  refine C_lit kT7 h (conv2 [x]) (by simp [conv2]) ?_
  rintro (_ | j) p hj
  · cases hj; exact ⟨A, m, by rw [List.length_map]; rfl, by rw [List.length_map]; exact hm, by rw [List.length_map]; exact hx⟩
  · simp [conv2] at hj
/-- The same nodes are the same lists. -/
theorem conv_of {x : List S46} {y : List S47} (h : nds x = nds7 y) : x.map conv = y := nds7_inj (by rw [nds7_conv, h])
/-- Two texts are the same just if what is shared is one. -/
theorem sameT_text {a b : List S46} (ha : mayB a = true) (hb : mayB b = true) : sameT a b = decide (TM.T (nds a) (a.length - 1) = TM.T (nds b) (b.length - 1)) := by
  obtain ⟨a1, a2, _⟩ := (mayB_iff a).1 ha
  obtain ⟨b1, b2, _⟩ := (mayB_iff b).1 hb
  have ea : shareS a = TM.share (nds a) := by unfold shareS; rw [ha]; rfl
  have eb : shareS b = TM.share (nds b) := by unfold shareS; rw [hb]; rfl
  have hp : 0 < (shareS a).length := share_pos_iff.2 ha
  have hi := TM.share_iff a1 b1 (by rw [nds_length]; exact a2) (by rw [nds_length]; exact b2)
  rw [nds_length, nds_length] at hi
  unfold sameT
  rw [decide_eq_true hp, Bool.true_and, ea, eb]
  by_cases h : TM.share (nds a) = TM.share (nds b)
  · rw [decide_eq_true h, decide_eq_true (hi.1 h)]
  · rw [decide_eq_false h, decide_eq_false (fun e => h (hi.2 e))]
theorem upS_at {a : List S46} (ha : mayB a = true) : rd (TM.upN TM.sizeF 0 (nds a) a.length) ((a.length : Int) - 1) = sizeOf a := by
  obtain ⟨a1, a2, a3⟩ := (mayB_iff a).1 ha
  rw [rd_upN TM.sizeF (nds a) a.length _ (by omega) (by omega)]
  unfold sizeOf TM.size
  rw [ha, nds_length, show ((a.length : Int) - 1).toNat = a.length - 1 by omega]
  rfl
theorem upD_at {a : List S46} (ha : mayB a = true) : rd (TM.upN TM.depthF 0 (nds a) a.length) ((a.length : Int) - 1) = depthOf a := by
  obtain ⟨a1, a2, a3⟩ := (mayB_iff a).1 ha
  rw [rd_upN TM.depthF (nds a) a.length _ (by omega) (by omega)]
  unfold depthOf TM.depth
  rw [ha, nds_length, show ((a.length : Int) - 1).toNat = a.length - 1 by omega]
  rfl
theorem planted_ok7 {k p : Int} {ts : List (List S46)} {l : List S46} (hl : nds l = plantS k p ts) : TM.Ok (nds l) := by
  rw [hl]
  unfold plantS
  split
  · rename_i hok
    unfold plantOk at hok
    simp only [Bool.and_eq_true, Bool.not_eq_true'] at hok
    exact TM.plant_ok (by simpa using hok.1) (may_nds (all_may hok.2))
  · exact TM.Ok.nil
theorem plant_len7 {k p : Int} {ts : List (List S46)} {l : List S46} (hl : nds l = plantS k p ts) (hs : (ts.map List.length).sum + 1 ≤ 100000) : l.length ≤ 100000 := by
  rw [← nds_length, hl]
  unfold plantS
  split
  · rename_i hok
    unfold plantOk at hok
    simp only [Bool.and_eq_true, Bool.not_eq_true'] at hok
    have h := TM.plant_le (k := k) (p := p) (ts := ts.map nds) (by simpa using hok.1) (may_nds (all_may hok.2))
    have e : (ts.map nds).map List.length = ts.map List.length := by
      rw [List.map_map]
      exact List.map_congr_left fun t _ => nds_length t
    rw [e] at h
    omega
  · simp
theorem plainly_planted7 {k p : Int} {ts : List (List S46)} {l : List S46} (hl : nds l = plantS k p ts) (hs : (ts.map List.length).sum + 1 ≤ 100000) : ∀ m ∈ l, Plainly m :=
  plainly_all (planted_ok7 hl).1 (by have := plant_len7 hl hs; omega)
theorem small_two {a b : List S46} (ha : Small a) (hb : Small b) : ∀ t ∈ [a, b], Small t := fun t ht => by
  simp only [List.mem_cons, List.not_mem_nil, or_false] at ht
  rcases ht with rfl | rfl
  · exact ha
  · exact hb
theorem small_one {a : List S46} (ha : Small a) : ∀ t ∈ [a], Small t := fun t ht => by
  simp only [List.mem_cons, List.not_mem_nil, or_false] at ht
  rw [ht]; exact ha

attribute [local go_sem] max2_int min2_int max_two min_two

set_option maxHeartbeats 16000000 in
set_option maxRecDepth 100000 in
theorem tellsLaw_any (k p : Int) (A B : Option Addr) (c d : Nat) (a b : List S46) (w : World) (hC : k46.C w A a.length a) (hc : a.length ≤ c) (hD : k46.C w B b.length b) (hd : b.length ≤ d) (ht : Tab w) :
    Calls Tryd.prog 3 #[.slice A a.length c, .slice B b.length d, .int .i64 k, .int .i64 p] w fun e w' => e = .returned (.bool true) ∧ Below w.heap.size w w' := by
  have HS0 : Vs w w [(A, a), (B, b)] [] := ⟨fun f hf => by
    simp only [List.mem_cons, List.not_mem_nil, or_false] at hf
    rcases hf with rfl | rfl
    · exact hC
    · exact hD, fun f hf => by simp at hf, ht, Below.refl _ _⟩
  have HS := Lib.hid HS0
  clear HS0 hC hD ht
  go_enter Tryd.func3, Tryd.ntmps3
  go_wp2_with fail
  refine (awake_any w HS.out.tab).mono ?_
  rintro e w1 ⟨rfl, hb⟩
  replace HS := Lib.hid (HS.out.step hb)
  clear hb
  go_wp2_with fail
  refine (large_any A c a w1 (HS.out.get (by simp)) hc).mono ?_
  rintro e w2 ⟨⟨q1, rfl, hq1⟩, hb⟩
  replace HS := Lib.hid (HS.out.step hb)
  clear hb
  cases q1 with
  | true =>
    clear hq1
    go_wp2
    go_ret
    exact ⟨rfl, HS.out.below⟩
  | false =>
    have HA := Lib.hid (hq1 rfl)
    clear hq1
    go_wp2_with fail
    refine (large_any B d b w2 (HS.out.get (by simp)) hd).mono ?_
    rintro e w3 ⟨⟨q1, rfl, hq1⟩, hb⟩
    replace HS := Lib.hid (HS.out.step hb)
    clear hb
    cases q1 with
    | true =>
      clear hq1
      go_wp2
      go_ret
      exact ⟨rfl, HS.out.below⟩
    | false =>
      have HB := Lib.hid (hq1 rfl)
      clear hq1
      have hal : a.length ≤ 200 := HA.out.1
      have hbl : b.length ≤ 200 := HB.out.1
      go_wp2_with fail
      refine (own_any A c a w3 (HS.out.get (by simp)) hc (by omega)).mono ?_
      rintro e w4 ⟨O1, c1, rfl, hc1, hC1, hb⟩
      replace HS := Lib.hid ((HS.out.step hb).add7 hC1)
      clear hb hC1
      go_wp2_with fail
      refine (own_any B d b w4 (HS.out.get (by simp)) hd (by omega)).mono ?_
      rintro e w5 ⟨O2, c2, rfl, hc2, hC2, hb⟩
      replace HS := Lib.hid ((HS.out.step hb).add7 hC2)
      clear hb hC2
      go_wp2_with fail
      refine (may7_any O1 c1 a w5 (HS.out.get7 (by simp)) hc1 (by omega) (kids9 HA.out.2.1)).mono ?_
      rintro e w6 ⟨rfl, hb⟩
      replace HS := Lib.hid (HS.out.step hb)
      clear hb
      go_upto_if 37 with fail
      go_cut [11, 12] (fun v11 v12 wr => v11 = .int .i64 (sizeOf a) ∧ v12 = .int .i64 (depthOf a) ∧ Hid (Vs w wr [(A, a), (B, b)] [(O2, b), (O1, a)]))
      case first =>
        cases hma : mayB a with
        | false =>
          have h1 : sizeOf a = 0 := by unfold sizeOf; rw [hma]; rfl
          have h2 : depthOf a = 0 := by unfold depthOf; rw [hma]; rfl
          have H1 := Lib.hid h1
          have H2 := Lib.hid h2
          clear h1 h2 hma
          go_wp2
          go_meet
          case rel => exact ⟨by rw [H1.out], by rw [H2.out], HS⟩
        | true =>
          obtain ⟨hM, h0, _⟩ := (mayB_iff a).1 hma
          obtain ⟨ks, hks⟩ := sizesRef a hM (by omega)
          have hsz := stratagemref19_Sizes.calls ks O1 c1 (a.map conv) _ _ w6 (by rw [List.length_map]; exact HS.out.get7 (by simp)) (by rw [List.length_map]; exact hc1) hks
          rw [List.length_map] at hsz
          have HSZ := Lib.hid hsz
          have H1 := Lib.hid (upS_at hma)
          have H2 := Lib.hid (upD_at hma)
          clear hks hsz hM hma
          go_wp2_with fail
          refine HSZ.out.mono ?_
          rintro e w7 ⟨v0, v1, rfl, hR0, hR1, hb⟩
          obtain ⟨S0, e0, rfl, he0, hC0⟩ := Kd.R_reads hR0
          obtain ⟨S1, e1, rfl, he1, hC1⟩ := Kd.R_reads hR1
          rw [TM.upN_length] at he0 he1 hC0 hC1 ⊢
          replace HS := Lib.hid (HS.out.step hb)
          obtain ⟨s0, rfl, hs0⟩ := Kd.at_int hC0 ((a.length : Int) - 1) (by omega) (by omega)
          obtain ⟨s1, rfl, hs1⟩ := Kd.at_int hC1 ((a.length : Int) - 1) (by omega) (by omega)
          rw [H1.out] at hs0
          rw [H2.out] at hs1
          have hl1 : ((a.length : Int) - 1).toNat = a.length - 1 := by omega
          rw [hl1] at hs0 hs1
          have hq0 : (0 : Int) ≤ (a.length : Int) - 1 := by omega
          have hq1 : (a.length : Int) - 1 < (a.length : Int) := by omega
          have hq2 : (1 : Int) ≤ (a.length : Int) := by omega
          have hw1 : wrap64 ((a.length : Int) - 1) = (a.length : Int) - 1 := by unfold wrap64; omega
          have hbd := below_drew (Below.refl w7.heap.size w7)
          replace HS := Lib.hid (HS.out.step hbd)
          replace hs0 := cell_w hbd hs0
          replace hs1 := cell_w hbd hs1
          clear hb hR0 hR1 hC0 hC1 hbd HSZ
          rw [TM.upN_length]
          go_wp2_with fail
          refine start_ (n := 14) (S := fun w' => w'.cell? (s0.add (a.length - 1)) = some (.int .i64 (sizeOf a)) ∧ w'.cell? (s1.add (a.length - 1)) = some (.int .i64 (depthOf a))) (ds := []) #[false, false, false, false, false, false, false, false, false, false, false, false, false, false] (by kernel_rfl) rfl rfl ⟨hs0, hs1⟩ (fun hHeld => ?_)
          generalize w7.drew = w8 at hs0 hs1 HS hHeld ⊢
          refine pure_ (i := 0) (N := some 43) (v := ?_) (a' := ?_) #[true, false, false, false, false, false, false, false, false, false, false, false, false, false] rfl rfl (by kernel_rfl) (fun _ _ _ h => h) (Or.inl ⟨by rfl, ?_⟩) ?_ ?_
          rotate_left
          · intro w'
            go_simp
            with_reducible rfl
          rotate_left
          · simp only [Act.put, List.setIfInBounds_toArray, List.set_cons_zero, List.set_cons_succ, i64_w, i32_w]
            rfl
          refine pure_ (i := 1) (N := some 44) (v := ?_) (a' := ?_) #[true, true, false, false, false, false, false, false, false, false, false, false, false, false] rfl rfl (by kernel_rfl) (fun _ _ _ h => h) (Or.inl ⟨by rfl, ?_⟩) ?_ ?_
          rotate_left
          · intro w'
            go_simp
            with_reducible rfl
          rotate_left
          · simp only [Act.put, List.setIfInBounds_toArray, List.set_cons_zero, List.set_cons_succ, i64_w, i32_w]
            rfl
          refine pure_ (i := 2) (N := some 45) (v := ?_) (a' := ?_) #[true, true, true, false, false, false, false, false, false, false, false, false, false, false] rfl rfl (by kernel_rfl) (fun _ _ _ h => h) (Or.inl ⟨by rfl, ?_⟩) ?_ ?_
          rotate_left
          · intro w'
            go_simp
            with_reducible rfl
          rotate_left
          · simp only [Act.put, List.setIfInBounds_toArray, List.set_cons_zero, List.set_cons_succ, i64_w, i32_w]
            rfl
          refine pure_ (i := 3) (N := some 46) (v := ?_) (a' := ?_) #[true, true, true, true, false, false, false, false, false, false, false, false, false, false] rfl rfl (by kernel_rfl) (fun _ _ _ h => h) (Or.inl ⟨by rfl, ?_⟩) ?_ ?_
          rotate_left
          · intro w'
            go_simp
            with_reducible rfl
          rotate_left
          · simp only [Act.put, List.setIfInBounds_toArray, List.set_cons_zero, List.set_cons_succ, i64_w, i32_w]
            rfl
          refine pure_ (i := 4) (N := some 47) (v := ?_) (a' := ?_) #[true, true, true, true, true, false, false, false, false, false, false, false, false, false] rfl rfl (by kernel_rfl) (fun _ _ _ h => h) (Or.inl ⟨by rfl, ?_⟩) ?_ ?_
          rotate_left
          · intro w'
            go_simp
            with_reducible rfl
          rotate_left
          · simp only [Act.put, List.setIfInBounds_toArray, List.set_cons_zero, List.set_cons_succ, i64_w, i32_w]
            rfl
          refine take_ (i := 5) (N := some 48) (v := ?_) (a' := ?_) #[true, true, true, true, true, true, false, false, false, false, false, false, false, false] rfl rfl (by kernel_rfl) (fun _ _ _ h => h) (Or.inl ⟨by rfl, ?_⟩) hHeld ?_ ?_
          rotate_left
          · rintro w' ⟨s0, s1⟩
            go_simp
            with_reducible rfl
          rotate_left
          · simp only [Act.put, List.setIfInBounds_toArray, List.set_cons_zero, List.set_cons_succ, i64_w, i32_w]
            rfl
          refine pure_ (i := 6) (N := some 49) (v := ?_) (a' := ?_) #[true, true, true, true, true, true, true, false, false, false, false, false, false, false] rfl rfl (by kernel_rfl) (fun _ _ _ h => h) (Or.inl ⟨by rfl, ?_⟩) ?_ ?_
          rotate_left
          · intro w'
            go_simp
            with_reducible rfl
          rotate_left
          · simp only [Act.put, List.setIfInBounds_toArray, List.set_cons_zero, List.set_cons_succ, i64_w, i32_w]
            rfl
          refine pure_ (i := 7) (N := some 50) (v := ?_) (a' := ?_) #[true, true, true, true, true, true, true, true, false, false, false, false, false, false] rfl rfl (by kernel_rfl) (fun _ _ _ h => h) (Or.inl ⟨by rfl, ?_⟩) ?_ ?_
          rotate_left
          · intro w'
            go_simp
            with_reducible rfl
          rotate_left
          · simp only [Act.put, List.setIfInBounds_toArray, List.set_cons_zero, List.set_cons_succ, i64_w, i32_w]
            rfl
          refine pure_ (i := 8) (N := some 51) (v := ?_) (a' := ?_) #[true, true, true, true, true, true, true, true, true, false, false, false, false, false] rfl rfl (by kernel_rfl) (fun _ _ _ h => h) (Or.inl ⟨by rfl, ?_⟩) ?_ ?_
          rotate_left
          · intro w'
            go_simp
            with_reducible rfl
          rotate_left
          · simp only [Act.put, List.setIfInBounds_toArray, List.set_cons_zero, List.set_cons_succ, i64_w, i32_w]
            rfl
          refine pure_ (i := 9) (N := some 52) (v := ?_) (a' := ?_) #[true, true, true, true, true, true, true, true, true, true, false, false, false, false] rfl rfl (by kernel_rfl) (fun _ _ _ h => h) (Or.inl ⟨by rfl, ?_⟩) ?_ ?_
          rotate_left
          · intro w'
            go_simp
            with_reducible rfl
          rotate_left
          · simp only [Act.put, List.setIfInBounds_toArray, List.set_cons_zero, List.set_cons_succ, i64_w, i32_w]
            rfl
          refine pure_ (i := 10) (N := some 53) (v := ?_) (a' := ?_) #[true, true, true, true, true, true, true, true, true, true, true, false, false, false] rfl rfl (by kernel_rfl) (fun _ _ _ h => h) (Or.inl ⟨by rfl, ?_⟩) ?_ ?_
          rotate_left
          · intro w'
            go_simp
            with_reducible rfl
          rotate_left
          · simp only [Act.put, List.setIfInBounds_toArray, List.set_cons_zero, List.set_cons_succ, i64_w, i32_w]
            rfl
          refine take_ (i := 11) (N := some 54) (v := ?_) (a' := ?_) #[true, true, true, true, true, true, true, true, true, true, true, true, false, false] rfl rfl (by kernel_rfl) (fun _ _ _ h => h) (Or.inl ⟨by rfl, ?_⟩) hHeld ?_ ?_
          rotate_left
          · rintro w' ⟨s0, s1⟩
            go_simp
            with_reducible rfl
          rotate_left
          · simp only [Act.put, List.setIfInBounds_toArray, List.set_cons_zero, List.set_cons_succ, i64_w, i32_w]
            rfl
          refine pure_ (i := 12) (N := some 11) (v := ?_) (a' := ?_) #[true, true, true, true, true, true, true, true, true, true, true, true, true, false] rfl rfl (by kernel_rfl) (fun _ _ _ h => h) (Or.inl ⟨by rfl, ?_⟩) ?_ ?_
          rotate_left
          · intro w'
            go_simp
            with_reducible rfl
          rotate_left
          · simp only [Act.put, List.setIfInBounds_toArray, List.set_cons_zero, List.set_cons_succ, i64_w, i32_w]
            rfl
          refine pure_ (i := 13) (N := some 12) (v := ?_) (a' := ?_) #[true, true, true, true, true, true, true, true, true, true, true, true, true, true] rfl rfl (by kernel_rfl) (fun _ _ _ h => h) (Or.inl ⟨by rfl, ?_⟩) ?_ ?_
          rotate_left
          · intro w'
            go_simp
            with_reducible rfl
          rotate_left
          · simp only [Act.put, List.setIfInBounds_toArray, List.set_cons_zero, List.set_cons_succ, i64_w, i32_w]
            rfl
          refine done_ (by kernel_rfl) ?_
          clear hHeld hs0 hs1 hl1 hw1
          go_wp2
          go_meet
          case rel => exact ⟨rfl, rfl, HS⟩
      case rest =>
        clear HS
        obtain ⟨rfl, rfl, HS⟩ := hcut
        go_upto_region 10 with fail
        go_cut [15] (fun v15 wr => v15 = .bool (sameT a b) ∧ Hid (Vs w wr [(A, a), (B, b)] [(O2, b), (O1, a)]))
        case first =>
          have HMA := Lib.hid (kids9 HA.out.2.1)
          have HMB := Lib.hid (kids9 HB.out.2.1)
          go_wp2_with fail
          refine (may7_any O1 c1 a wc (HS.out.get7 (by simp)) hc1 (by omega) HMA.out).mono ?_
          rintro e w7 ⟨rfl, hb⟩
          replace HS := Lib.hid (HS.out.step hb)
          clear hb
          cases hma : mayB a with
          | false =>
            have H1 := Lib.hid (sameT_left (b := b) hma)
            clear hma
            go_wp2
            go_meet
            case rel => exact ⟨by rw [H1.out], HS⟩
          | true =>
            have HMMA := Lib.hid hma
            clear hma
            go_wp2_with fail
            refine (may7_any O2 c2 b w7 (HS.out.get7 (by simp)) hc2 (by omega) HMB.out).mono ?_
            rintro e w8 ⟨rfl, hb⟩
            replace HS := Lib.hid (HS.out.step hb)
            clear hb
            cases hmb : mayB b with
            | false =>
              have H1 := Lib.hid (sameT_right (a := a) hmb)
              clear hmb
              go_wp2
              go_meet
              case rel => exact ⟨by rw [H1.out], HS⟩
            | true =>
              obtain ⟨a1, a2, _⟩ := (mayB_iff a).1 HMMA.out
              obtain ⟨b1, b2, _⟩ := (mayB_iff b).1 hmb
              have hta := text7_any O1 c1 (a.map conv) (by rw [List.length_map]; exact hc1) (by rw [nds7_conv]; exact a1) (by rw [List.length_map]; omega) (by rw [List.length_map]; exact a2) (by rw [nds7_conv, List.length_map]; have := small_text HA.out HMMA.out; omega) w8 (by rw [List.length_map]; exact HS.out.get7 (by simp))
              have htb := fun w9 (hb9 : Below w8.heap.size w8 w9) => text7_any O2 c2 (b.map conv) (by rw [List.length_map]; exact hc2) (by rw [nds7_conv]; exact b1) (by rw [List.length_map]; omega) (by rw [List.length_map]; exact b2) (by rw [nds7_conv, List.length_map]; have := small_text HB.out hmb; omega) w9 (by rw [List.length_map]; exact (HS.out.step hb9).get7 (by simp))
              rw [nds7_conv, List.length_map] at hta
              rw [nds7_conv, List.length_map] at htb
              have HTA := Lib.hid hta
              have HTB := Lib.hid htb
              have H1 := Lib.hid (sameT_text HMMA.out hmb)
              clear hta htb hmb a1 b1
              go_wp2_with fail
              refine HTA.out.mono ?_
              rintro e w9 ⟨rfl, hb9⟩
              have HB9 := Lib.hid hb9
              clear hb9
              go_wp2_with fail
              refine (HTB.out w9 HB9.out).mono ?_
              rintro e w10 ⟨rfl, hb⟩
              replace HS := Lib.hid ((HS.out.step HB9.out).step hb)
              have hbq := str_beq (TM.T (nds a) (a.length - 1)) (TM.T (nds b) (b.length - 1))
              rw [← H1.out] at hbq
              clear hb HTA HTB H1
              generalize strT (TM.T (nds a) (a.length - 1)) = U1 at hbq ⊢
              generalize strT (TM.T (nds b) (b.length - 1)) = U2 at hbq ⊢
              go_wp2_with fail
              go_meet
              case rel => exact ⟨rfl, HS⟩
        case rest =>
          clear HS
          obtain ⟨rfl, HS⟩ := hcut
          generalize hsm : sameT a b = sm
          have HSM := Lib.hid hsm
          generalize hza : sizeOf a = za
          have HZA := Lib.hid hza
          generalize hda : depthOf a = da
          have HDA := Lib.hid hda
          have HMA := Lib.hid (kids9 HA.out.2.1)
          clear hsm hza hda
          go_wp2_with fail
          refine (may_any A c a wc (HS.out.get (by simp)) hc).mono ?_
          rintro e w7 ⟨rfl, hb⟩
          replace HS := Lib.hid (HS.out.step hb)
          clear hb
          go_wp2_with fail
          refine (may7_any O1 c1 a w7 (HS.out.get7 (by simp)) hc1 (by omega) HMA.out).mono ?_
          rintro e w8 ⟨rfl, hb⟩
          replace HS := Lib.hid (HS.out.step hb)
          clear hb
          generalize mayB a = ma
          go_wp2_with fail
          refine (size_any A c a w8 (HS.out.get (by simp)) hc).mono ?_
          rintro e w9 ⟨rfl, hb⟩
          replace HS := Lib.hid (HS.out.step hb)
          rw [HZA.out]
          clear hb
          go_wp2_with fail
          refine (depth_any A c a w9 (HS.out.get (by simp)) hc).mono ?_
          rintro e w10 ⟨rfl, hb⟩
          replace HS := Lib.hid (HS.out.step hb)
          rw [HDA.out]
          clear hb
          go_wp2_with fail
          refine (same_any a b A B c d w10 (HS.out.get (by simp)) hc (HS.out.get (by simp)) hd HS.out.tab).mono ?_
          rintro e w11 ⟨rfl, hb⟩
          replace HS := Lib.hid (HS.out.step hb)
          rw [HSM.out]
          clear hb
          go_wp2_with fail
          refine (share_any A c a w11 (HS.out.get (by simp)) hc HS.out.tab).mono ?_
          rintro e w12 ⟨vx, x, rfl, hx, hRx, hb⟩
          obtain ⟨X, cx, rfl, hcx, hCx⟩ := Kd.R_reads hRx
          replace HS := Lib.hid ((HS.out.step hb).add hCx)
          have HX := Lib.hid hx
          have hxl : x.length ≤ 100000 := by rw [← nds_length, hx]; exact shareS_len a
          clear hb hRx hCx hx
          go_wp2_with fail
          refine (own_any X cx x w12 (HS.out.get (by simp)) hcx (by omega)).mono ?_
          rintro e w13 ⟨O3, c3, rfl, hc3, hC3, hb⟩
          replace HS := Lib.hid (HS.out.step hb)
          have H13 := Lib.hid hC3
          clear hb hC3
          go_wp2_with fail
          refine (share7_any O1 c1 a w13 (HS.out.get7 (by simp)) hc1 HA.out).mono ?_
          rintro e w14 ⟨X7, cx7, x7, rfl, hx7, hcx7, hCx7, hb⟩
          obtain rfl : x.map conv = x7 := conv_of (HX.out.trans hx7.symm)
          replace HS := Lib.hid (HS.out.step hb)
          have H14 := Lib.hid (Kd.C_below H13.out hb)
          have H15 := Lib.hid hCx7
          clear hb hCx7 H13 hx7
          have heq := equal_any O3 X7 c3 cx7 (x.map conv) (x.map conv) w14 (by rw [List.length_map]; exact H14.out) (by rw [List.length_map]; exact hc3) H15.out hcx7 (by rw [List.length_map]; omega) (kids_few (plainly_share HX.out))
          rw [List.length_map] at heq
          have HEQ := Lib.hid heq
          clear heq H14 H15
          rw [List.length_map]
          go_wp2_with fail
          refine HEQ.out.mono ?_
          rintro e w15 ⟨⟨qq, rfl, hqq⟩, hb⟩
          obtain rfl : qq = true := by first | exact hqq.2 rfl | exact hqq.2 trivial
          replace HS := Lib.hid (HS.out.step hb)
          clear hb hqq HEQ
          go_wp2_with fail
          have hba := below_alloc (Below.refl w15.heap.size w15) (.cells #[.slice A a.length c, .slice B b.length d] 23)
          have hcT : kT.C (w15.alloc (.cells #[.slice A a.length c, .slice B b.length d] 23)) (some ⟨w15.heap.size, 0, none⟩) 2 [a, b] := C_two (x := a) (y := b) (blk_new _ _ _ _ rfl) (Kd.C_below (HS.out.get (by simp)) hba) hc (Kd.C_below (HS.out.get (by simp)) hba) hd
          replace HS := Lib.hid (HS.out.step hba)
          generalize (w15.alloc (.cells #[.slice A a.length c, .slice B b.length d] 23)) = w16 at hcT HS ⊢
          refine (plant_any k p (some ⟨w15.heap.size, 0, none⟩) 2 [a, b] w16 hcT (Nat.le_refl _) HS.out.tab (by simp; omega)).mono ?_
          clear hba hcT
          rintro e w17 ⟨vl, l, rfl, hl, hRl, hb⟩
          obtain ⟨L, cl, rfl, hcl, hCl⟩ := Kd.R_reads hRl
          replace HS := Lib.hid ((HS.out.step hb).add hCl)
          have HL := Lib.hid hl
          have hll := plant_len7 hl (by simp; omega)
          have HPL := Lib.hid (plainly_planted7 hl (by simp; omega))
          clear hb hRl hCl hl
          generalize hE : plantE k p [a, b] = E
          have HE := Lib.hid hE
          clear hE
          go_wp2_with fail
          have hba := below_alloc (Below.refl w17.heap.size w17) (.cells #[.slice O1 a.length c1, .slice O2 b.length c2] 26)
          have hcT : kT7.C (w17.alloc (.cells #[.slice O1 a.length c1, .slice O2 b.length c2] 26)) (some ⟨w17.heap.size, 0, none⟩) 2 (conv2 [a, b]) := C7_two (x := a) (y := b) (blk_new _ _ _ _ rfl) (Kd.C_below (HS.out.get7 (by simp)) hba) hc1 (Kd.C_below (HS.out.get7 (by simp)) hba) hc2
          replace HS := Lib.hid (HS.out.step hba)
          generalize (w17.alloc (.cells #[.slice O1 a.length c1, .slice O2 b.length c2] 26)) = w18 at hcT HS ⊢
          refine (plant7_any k p (some ⟨w17.heap.size, 0, none⟩) 2 [a, b] w18 hcT (Nat.le_refl _) (small_two HA.out HB.out) (Nat.le_refl _)).mono ?_
          clear hba hcT
          rintro e w19 ⟨Q7, cq7, q7, rfl, hq7, hcq7, hCq7, hb⟩
          obtain rfl : l.map conv = q7 := conv_of (HL.out.trans hq7.symm)
          rw [List.length_map] at hcq7 hCq7 ⊢
          replace HS := Lib.hid ((HS.out.step hb).add7 hCq7)
          rw [HE.out]
          clear hb hCq7 hq7
          go_wp2_with fail
          have hba := below_alloc (Below.refl w19.heap.size w19) (.cells #[.slice A a.length c] 23)
          have hcT : kT.C (w19.alloc (.cells #[.slice A a.length c] 23)) (some ⟨w19.heap.size, 0, none⟩) 1 [a] := C_single (x := a) (blk_new _ _ _ _ rfl) (Kd.C_below (HS.out.get (by simp)) hba) hc
          replace HS := Lib.hid (HS.out.step hba)
          generalize (w19.alloc (.cells #[.slice A a.length c] 23)) = w20 at hcT HS ⊢
          refine (plant_any k p (some ⟨w19.heap.size, 0, none⟩) 1 [a] w20 hcT (Nat.le_refl _) HS.out.tab (by simp; omega)).mono ?_
          clear hba hcT
          rintro e w21 ⟨vo, o, rfl, ho, hRo, hb⟩
          obtain ⟨P0, cp, rfl, hcp, hCo⟩ := Kd.R_reads hRo
          replace HS := Lib.hid ((HS.out.step hb).add hCo)
          have HO := Lib.hid ho
          have hol := plant_len7 ho (by simp; omega)
          have HPO := Lib.hid (plainly_planted7 ho (by simp; omega))
          clear hb hRo hCo ho
          generalize hE2 : plantE k p [a] = E2
          have HE2 := Lib.hid hE2
          clear hE2
          go_wp2_with fail
          have hba := below_alloc (Below.refl w21.heap.size w21) (.cells #[.slice O1 a.length c1] 26)
          have hcT : kT7.C (w21.alloc (.cells #[.slice O1 a.length c1] 26)) (some ⟨w21.heap.size, 0, none⟩) 1 (conv2 [a]) := C7_single (x := a) (blk_new _ _ _ _ rfl) (Kd.C_below (HS.out.get7 (by simp)) hba) hc1
          replace HS := Lib.hid (HS.out.step hba)
          generalize (w21.alloc (.cells #[.slice O1 a.length c1] 26)) = w22 at hcT HS ⊢
          refine (plant7_any k p (some ⟨w21.heap.size, 0, none⟩) 1 [a] w22 hcT (Nat.le_refl _) (small_one HA.out) (by simp)).mono ?_
          clear hba hcT
          rintro e w23 ⟨T7, ct7, t7, rfl, ht7, hct7, hCt7, hb⟩
          obtain rfl : o.map conv = t7 := conv_of (HO.out.trans ht7.symm)
          rw [List.length_map] at hct7 hCt7 ⊢
          replace HS := Lib.hid ((HS.out.step hb).add7 hCt7)
          rw [HE2.out]
          clear hb hCt7 ht7
          go_wp2_with fail
          refine (own_any L cl l w23 (HS.out.get (by simp)) hcl (by omega)).mono ?_
          rintro e w24 ⟨O4, c4, rfl, hc4, hC4, hb⟩
          replace HS := Lib.hid (HS.out.step hb)
          have H24 := Lib.hid hC4
          clear hb hC4
          go_wp2_with fail
          have heq := equal_any O4 Q7 c4 cq7 (l.map conv) (l.map conv) w24 (by rw [List.length_map]; exact H24.out) (by rw [List.length_map]; exact hc4) (by rw [List.length_map]; exact HS.out.get7 (by simp)) (by rw [List.length_map]; exact hcq7) (by rw [List.length_map]; omega) (kids_few HPL.out)
          rw [List.length_map] at heq
          refine heq.mono ?_
          rintro e w25 ⟨⟨qq, rfl, hqq⟩, hb⟩
          obtain rfl : qq = true := by first | exact hqq.2 rfl | exact hqq.2 trivial
          replace HS := Lib.hid (HS.out.step hb)
          clear hb hqq heq H24
          go_wp2_with fail
          refine (own_any P0 cp o w25 (HS.out.get (by simp)) hcp (by omega)).mono ?_
          rintro e w26 ⟨O5, c5, rfl, hc5, hC5, hb⟩
          replace HS := Lib.hid (HS.out.step hb)
          have H26 := Lib.hid hC5
          clear hb hC5
          go_wp2_with fail
          have heq := equal_any O5 T7 c5 ct7 (o.map conv) (o.map conv) w26 (by rw [List.length_map]; exact H26.out) (by rw [List.length_map]; exact hc5) (by rw [List.length_map]; exact HS.out.get7 (by simp)) (by rw [List.length_map]; exact hct7) (by rw [List.length_map]; omega) (kids_few HPO.out)
          rw [List.length_map] at heq
          refine heq.mono ?_
          rintro e w27 ⟨⟨qq, rfl, hqq⟩, hb⟩
          obtain rfl : qq = true := by first | exact hqq.2 rfl | exact hqq.2 trivial
          replace HS := Lib.hid (HS.out.step hb)
          clear hb hqq heq H26
          go_wp2_with fail
          go_ret
          exact ⟨rfl, HS.out.below⟩
end Go.Proofs.YtlgnogpjmdhflaaDoor
