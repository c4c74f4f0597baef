/- Plant of tree: the walk. -/
import Derived.Test.YtlgnogpjmdhflaaDoorTreeL
namespace Go.Proofs.YtlgnogpjmdhflaaDoor
open Go.RowKit Go.Proofs.YtlgnogpjmdhflaaDoorW.PrintWords Go.Proofs.YtlgnogpjmdhflaaDoorW.PrintLast Go.Proofs.YtlgnogpjmdhflaaDoorW.PrintMore Go.Proofs.YtlgnogpjmdhflaaDoor.PRef Go.Maps
set_option linter.unusedVariables false
set_option linter.unusedSimpArgs false

def plantOk (k p : Int) (ts : List (List S46)) : Bool := TM.fitsB k p ts.length && !noneMay ts
/-- What is planted, and what is said of it. -/
def plantS (k p : Int) (ts : List (List S46)) : List TM.Nd := if plantOk k p ts = true then TM.plant k p (ts.map nds) else []
def plantE (k p : Int) (ts : List (List S46)) : Int := if plantOk k p ts = true then 0 else 1
def Planted (k p : Int) (ts : List (List S46)) (w : World) (e : Ending) (w' : World) : Prop :=
  ∃ v' out', e = .returned (.tuple #[v', .int .i64 (plantE k p ts)]) ∧ nds out' = plantS k p ts ∧ k46.R 46 w' w.heap.size (fun _ => True) v' out' ∧ Below w.heap.size w w'
theorem all_may {ts : List (List S46)} (h : noneMay ts = false) : ∀ t ∈ ts, mayB t = true := by
  intro t ht
  unfold noneMay at h
  rw [List.any_eq_false] at h
  have := h t ht
  simpa using this

theorem may_nds {ts : List (List S46)} (h : ∀ t ∈ ts, mayB t = true) : ∀ t ∈ ts.map nds, TM.Mays t ∧ 0 < t.length := by
  intro t ht
  obtain ⟨t', h', rfl⟩ := List.mem_map.1 ht
  obtain ⟨h1, h2, _⟩ := (mayB_iff t').1 (h t' h')
  exact ⟨h1, by rw [nds_length]; exact h2⟩
theorem take_snocT {ts : List (List S46)} {j : Nat} (h : j < ts.length) : (ts.map nds).take j ++ [nds (rdT ts j)] = (ts.map nds).take (j + 1) := by
  rw [List.take_succ_eq_append_getElem (by simpa using h)]
  simp [rdT, List.getD_eq_getElem?_getD, List.getElem?_eq_getElem h]
theorem sum_take_le : ∀ (l : List Nat) (j : Nat), (l.take j).sum ≤ l.sum := by
  intro l
  induction l with
  | nil => intro j; simp
  | cons a l ih =>
    intro j
    cases j with
    | zero => simp
    | succ j => simp only [List.take_succ_cons, List.sum_cons]; have := ih j; omega
theorem sum_nds (ts : List (List S46)) (j : Nat) : (((ts.map nds).take j).map List.length).sum ≤ (ts.map List.length).sum := by
  have e : (ts.map nds).map List.length = ts.map List.length := by
    rw [List.map_map]
    exact List.map_congr_left fun t _ => nds_length t
  rw [List.map_take, e]
  exact sum_take_le _ _
theorem Pj.fresh {base Bs Bm B9 : Nat} {k p : Int} {r : List TM.Nd × List Int} {kv v' : Value} {out' : List S46} {w wr : World} (h : Pj base Bs Bm B9 k p r kv v' out' w wr) : ∀ x, wr.heap.size ≤ x → x ≠ B9 ∧ some x ≠ kv.ownBlock := fun x hx => by
  refine ⟨fun e => ?_, fun e => ?_⟩
  · have := blk_lt h.box; omega
  · have := Kd.R_lt h.kids x e.symm; omega

set_option maxHeartbeats 4000000 in
set_option maxRecDepth 100000 in
theorem plant_any (k p : Int) (A : Option Addr) (c : Nat) (ts : List (List S46)) (w : World) (hC : kT.C w A ts.length ts) (hc : ts.length ≤ c) (ht : Tab w) (hsum : (ts.map List.length).sum + 1 ≤ 100000) :
    Calls Tryd.prog 19 #[.int .i64 k, .int .i64 p, .slice A ts.length c] w (Planted k p ts w) := by
  have hm64 : ts.length ≤ 9223372036854775807 := hC.2.1
  have HC := Lib.hid hC
  have HT := Lib.hid ht
  clear hC ht
  cases hfit : TM.fitsB k p ts.length with
  | false =>
    have hok : plantOk k p ts = false := by unfold plantOk; rw [hfit]; rfl
    have hE : plantE k p ts = 1 := by unfold plantE; rw [hok]; rfl
    have hS : plantS k p ts = [] := by unfold plantS; rw [hok]; rfl
    go_enter Tryd.func19, Tryd.ntmps19
    go_wp2_with fail
    refine (fits_any k p ts.length w).mono ?_
    rintro e w' ⟨rfl, rfl⟩
    rw [hfit]
    go_wp2
    go_ret2
    exact ⟨_, [], by rw [hE]; rfl, hS.symm, Kd.R_nil _ _ _ _ _, Below.refl _ _⟩
  | true =>
    cases hno : noneMay ts with
    | true =>
      have hok : plantOk k p ts = false := by unfold plantOk; rw [hfit, hno]; rfl
      have hE : plantE k p ts = 1 := by unfold plantE; rw [hok]; rfl
      have hS : plantS k p ts = [] := by unfold plantS; rw [hok]; rfl
      go_enter Tryd.func19, Tryd.ntmps19
      go_wp2_with fail
      refine (fits_any k p ts.length w).mono ?_
      rintro e w' ⟨rfl, rfl⟩
      rw [hfit]
      go_wp2_with fail
      refine (contains_any A c ts w HC.out hc).mono ?_
      rintro e w1 ⟨rfl, hb1⟩
      rw [hno]
      go_wp2
      go_ret2
      exact ⟨_, [], by rw [hE]; rfl, hS.symm, Kd.R_nil _ _ _ _ _, hb1⟩
    | false =>
      have hok : plantOk k p ts = true := by unfold plantOk; rw [hfit, hno]; rfl
      have hE : plantE k p ts = 0 := by unfold plantE; rw [hok]; rfl
      have hS : plantS k p ts = TM.plant k p (ts.map nds) := by unfold plantS; rw [hok]; rfl
      have HAM := Lib.hid (all_may hno)
      have hmm := @run_makeMap Tryd.prog
      clear hok
      have HE := Lib.hid hE
      have HS := Lib.hid hS
      have HFIT := Lib.hid hfit
      clear hE hS
      go_enter Tryd.func19, Tryd.ntmps19
      go_wp2_with fail
      refine (fits_any k p ts.length w).mono ?_
      rintro e w' ⟨rfl, rfl⟩
      rw [hfit]
      go_wp2_with fail
      refine (contains_any A c ts w HC.out hc).mono ?_
      rintro e w1 ⟨rfl, hb1⟩
      rw [hno]
      clear hfit hno
      go_wp2_with fail
      have hsh := Sh.begin w.heap.size w1 hb1.size
      have e2 : ((w1.alloc (.map #[] 0)).alloc (.cells #[.slice none 0 0, .map (some w1.heap.size)] 62)).heap.size = w1.heap.size + 1 + 1 := by simp
      have hb2 : Below w.heap.size w ((w1.alloc (.map #[] 0)).alloc (.cells #[.slice none 0 0, .map (some w1.heap.size)] 62)) := (hb1.alloc hb1.size _).alloc (by simp; have := hb1.size; omega) _
      generalize ((w1.alloc (.map #[] 0)).alloc (.cells #[.slice none 0 0, .map (some w1.heap.size)] 62)) = W2 at hsh e2 hb2 ⊢
      have hpj : Pj w.heap.size (w1.heap.size + 1) w1.heap.size (w1.heap.size + 1 + 1) k p (TM.kidsT ((ts.map nds).take 0) []) (.slice none 0 0) (.slice none 0 0) [] w (W2.alloc (.cells #[.int .i64 k, .int .i64 p, .slice none 0 0] 46)) := by
        refine ⟨(hsh.bound.mono (fun q hq => ⟨by have := hq.2; omega, by simp [Value.ownBlock]⟩)).step (below_alloc (Below.refl _ _) _), ?_, Kd.R_nil _ _ _ _ _, rfl, by have := hb1.size; omega, hb2.alloc hb2.size _, by simp; have := hb2.size; omega⟩
        have h := heap_alloc_new W2 (.cells #[.int .i64 k, .int .i64 p, .slice none 0 0] 46)
        rw [e2] at h
        exact h
      generalize (W2.alloc (.cells #[.int .i64 k, .int .i64 p, .slice none 0 0] 46)) = W3 at hpj ⊢
      have HPJ := Lib.hid hpj
      clear hsh hb1 hb2 e2 hpj
      go_wp2_with fail
      go_loopw [11, 30] (fun _ v wr => ∃ j : Nat, j ≤ ts.length ∧ v = .int .i64 j ∧ ∃ kv v' out', Hid (Pj w.heap.size (w1.heap.size + 1) w1.heap.size (w1.heap.size + 1 + 1) k p (TM.kidsT ((ts.map nds).take j) []) kv v' out' w wr)) (fun _ v _ => ts.length - (intOf v).toNat)
      case atStart => exact ⟨0, Nat.zero_le _, rfl, _, _, _, HPJ⟩
      case round =>
        obtain ⟨j, hj, rfl, kv, v', out', HK⟩ := hrel
        by_cases hlt : j < ts.length
        · obtain ⟨ad, A2, c2, rfl, hn, hl, hC2⟩ := at_T HC.out j hlt
          replace hn := (HK.out.bw.cell (World.block_lt_of_cell? w _ hn)).trans hn
          obtain ⟨hms, hl0, hl1⟩ := (mayB_iff _).1 (HAM.out _ (rdT_mem hlt))
          obtain ⟨p1, p2, p3, p4, p5⟩ := kidsT_spec ((ts.map nds).take j) [] (fun t ht => may_nds HAM.out t (List.mem_of_mem_take ht)) TM.Ok.nil
          have p6 := sum_nds ts j
          have hsn := kidsT_snoc (nds (rdT ts j)) ((ts.map nds).take j) []
          rw [take_snocT hlt, nds_length] at hsn
          generalize rdT ts j = t at hn hl hC2 hms hl0 hl1 hsn
          obtain ⟨q, hq⟩ : ∃ q : Nat, t.length = q + 1 := ⟨t.length - 1, by omega⟩
          have hq1 : (t.length : Int) - 1 = (q : Int) := by omega
          rw [show t.length - 1 = q from by omega, ← HK.out.r1] at hsn
          rw [← HK.out.r1, nds_length] at p5
          rw [← HK.out.r1] at p1
          simp only [List.length_take, List.length_map] at p3
          simp only [List.length_nil, Nat.zero_add] at p5
          have ho5 : out'.length ≤ 100000 := by omega
          have hln : out'.length + load q ≤ 100000000000 := by unfold load; omega
          generalize TM.kidsT ((ts.map nds).take j) [] = r at HK hsn p3
          have hl3 : r.2.length ≤ ts.length := by omega
          have hts : ts.length ≤ 1000000 := by have := TM.fits_bd HFIT.out; omega
          have hmk := print_make (P := Tryd.prog) 29 3 .i64 8 Tryd.underlying29 info3 (by decide) t.length (by omega)
          have HQ := Lib.hid hq
          have HQ1 := Lib.hid hq1
          have HP1 := Lib.hid p1
          have HSN := Lib.hid hsn
          have HMS := Lib.hid hms
          have HC2 := Lib.hid hC2
          have hlm : t.length ≤ 9223372036854775807 := by omega
          have hw64 : wrap64 ((t.length : Int) - 1) = (t.length : Int) - 1 := by first | go_num | (unfold wrap64; omega)
          clear hq hq1 p1 p2 p3 p4 p5 p6 hsn hms hC2
          go_wp2_with fail
          have HKd := Lib.hid (HK.out.step (below_drew (Below.refl wr.heap.size wr)))
          have hcd := HKd.out.kc
          refine start_ (n := 15) (S := fun w' => w'.cell? ⟨w1.heap.size + 1 + 1, 2, none⟩ = some kv) (ds := [14]) #[false, false, false, false, false, false, false, false, false, false, false, false, false, false, false] (by kernel_rfl) rfl rfl hcd (fun hHeld => ?_)
          generalize wr.drew = w5 at HKd hcd hHeld ⊢
          refine pure_ (i := 0) (N := some 34) (v := ?_) (a' := ?_) #[true, false, false, false, false, false, false, false, false, false, false, false, false, false, false] rfl rfl (by kernel_rfl) (fun _ _ _ h => h) (Or.inl ⟨by rfl, ?_⟩) ?_ ?_
          rotate_left
          · intro w'
            go_simp
            with_reducible rfl
          rotate_left
          · simp only [Act.put, List.setIfInBounds_toArray, List.set_cons_zero, List.set_cons_succ, i64_w, i32_w]
            rfl
          refine pure_ (i := 2) (N := some 36) (v := ?_) (a' := ?_) #[true, false, true, false, false, false, false, false, false, false, false, false, false, false, false] rfl rfl (by kernel_rfl) (fun _ _ _ h => h) (Or.inl ⟨by rfl, ?_⟩) ?_ ?_
          rotate_left
          · intro w'
            go_simp
            with_reducible rfl
          rotate_left
          · simp only [Act.put, List.setIfInBounds_toArray, List.set_cons_zero, List.set_cons_succ, i64_w, i32_w]
            rfl
          refine pure_ (i := 3) (N := some 37) (v := ?_) (a' := ?_) #[true, false, true, true, false, false, false, false, false, false, false, false, false, false, false] rfl rfl (by kernel_rfl) (fun _ _ _ h => h) (Or.inl ⟨by rfl, ?_⟩) ?_ ?_
          rotate_left
          · intro w'
            go_simp
            with_reducible rfl
          rotate_left
          · simp only [Act.put, List.setIfInBounds_toArray, List.set_cons_zero, List.set_cons_succ, i64_w, i32_w]
            rfl
          refine pure_ (i := 4) (N := some 38) (v := ?_) (a' := ?_) #[true, false, true, true, true, false, false, false, false, false, false, false, false, false, false] rfl rfl (by kernel_rfl) (fun _ _ _ h => h) (Or.inl ⟨by rfl, ?_⟩) ?_ ?_
          rotate_left
          · intro w'
            go_simp
            with_reducible rfl
          rotate_left
          · simp only [Act.put, List.setIfInBounds_toArray, List.set_cons_zero, List.set_cons_succ, i64_w, i32_w]
            rfl
          refine pure_ (i := 5) (N := some 39) (v := ?_) (a' := ?_) #[true, false, true, true, true, true, false, false, false, false, false, false, false, false, false] rfl rfl (by kernel_rfl) (fun _ _ _ h => h) (Or.inl ⟨by rfl, ?_⟩) ?_ ?_
          rotate_left
          · intro w'
            go_simp
            with_reducible rfl
          rotate_left
          · simp only [Act.put, List.setIfInBounds_toArray, List.set_cons_zero, List.set_cons_succ, i64_w, i32_w]
            rfl
          refine pure_ (i := 6) (N := some 40) (v := ?_) (a' := ?_) #[true, false, true, true, true, true, true, false, false, false, false, false, false, false, false] rfl rfl (by kernel_rfl) (fun _ _ _ h => h) (Or.inl ⟨by rfl, ?_⟩) ?_ ?_
          rotate_left
          · intro w'
            go_simp
            with_reducible rfl
          rotate_left
          · simp only [Act.put, List.setIfInBounds_toArray, List.set_cons_zero, List.set_cons_succ, i64_w, i32_w]
            rfl
          refine pure_ (i := 7) (N := some 41) (v := ?_) (a' := ?_) #[true, false, true, true, true, true, true, true, false, false, false, false, false, false, false] rfl rfl (by kernel_rfl) (fun _ _ _ h => h) (Or.inl ⟨by rfl, ?_⟩) ?_ ?_
          rotate_left
          · intro w'
            go_simp
            with_reducible rfl
          rotate_left
          · simp only [Act.put, List.setIfInBounds_toArray, List.set_cons_zero, List.set_cons_succ, i64_w, i32_w]
            rfl
          refine pure_ (i := 8) (N := some 42) (v := ?_) (a' := ?_) #[true, false, true, true, true, true, true, true, true, false, false, false, false, false, false] rfl rfl (by kernel_rfl) (fun _ _ _ h => h) (Or.inl ⟨by rfl, ?_⟩) ?_ ?_
          rotate_left
          · intro w'
            go_simp
            with_reducible rfl
          rotate_left
          · simp only [Act.put, List.setIfInBounds_toArray, List.set_cons_zero, List.set_cons_succ, i64_w, i32_w]
            rfl
          refine take_ (i := 1) (N := some 35) (v := ?_) (a' := ?_) #[true, true, true, true, true, true, true, true, true, false, false, false, false, false, false] rfl rfl (by kernel_rfl) (fun _ _ _ h => h) (Or.inl ⟨by rfl, ?_⟩) hHeld ?_ ?_
          rotate_left
          · intro w' s0
            go_simp
            with_reducible rfl
          rotate_left
          · simp only [Act.put, List.setIfInBounds_toArray, List.set_cons_zero, List.set_cons_succ, i64_w, i32_w]
            rfl
          refine one_ (i := 9) (N := some 43) #[true, true, true, true, true, true, true, true, true, true, false, false, false, false, false] rfl rfl (by kernel_rfl) (by decide) (fun K hK => ?_)
          refine event_step (w1 := w5.alloc (.cells (madeCells #[.int .i64 0] t.length) 3)) (v := .slice (some ⟨w5.heap.size, 0, none⟩) t.length t.length) (by rfl) (by go_simp) ?_
          have hb6 := below_alloc (Below.refl w5.heap.size w5) (.cells (madeCells #[.int .i64 0] t.length) 3)
          have e6 : (w5.alloc (.cells (madeCells #[.int .i64 0] t.length) 3)).heap.size = w5.heap.size + 1 := by simp
          have hws := Ws.begin HKd.out.sh HP1.out HKd.out.bs t hl1
          generalize (w5.alloc (.cells (madeCells #[.int .i64 0] t.length) 3)) = w6 at hb6 e6 hws ⊢
          have hc6 := pw_cell_below hb6 hcd
          refine hK.out _ _ hc6 (fun hHeld => ?_)
          clear hK K
          refine norm_ (a' := ?_) ?_ ?_
          rotate_left
          · show Act.put _ (some 43) _ = _
            simp only [Act.put, List.setIfInBounds_toArray, List.set_cons_zero, List.set_cons_succ, i64_w, i32_w]
            try rfl
          refine one_ (i := 10) (N := some 44) #[true, true, true, true, true, true, true, true, true, true, true, false, false, false, false] rfl rfl (by kernel_rfl) (by decide) (fun K hK => ?_)
          refine goes_ Tryd.func33 (by kernel_rfl) rfl #[.pointer (some ⟨w1.heap.size + 1, 0, none⟩), .slice A2 t.length c2, .int .i64 ((t.length : Int) - 1), .slice (some ⟨w5.heap.size, 0, none⟩) t.length t.length] (by rfl) rfl rfl (by simp [Act.eval]; exact hw64) ?_
          rw [HQ1.out]
          refine (walk_any w A2 c2 t HC2.out hl HMS.out hl1 (w1.heap.size + 1) w1.heap.size w5.heap.size t.length HT.out t.length q (by have := HQ.out; omega) (by have := HQ.out; omega) _ v' out' _ w6 hws (fun x hx => ⟨HKd.out.fresh x (by omega), by omega⟩) (HKd.out.bw.trans (hb6.mono HKd.out.bs)) hln).mono ?_
          rintro e w7 hp
          generalize TM.shr (nds t) t.length q (nds out') = r2 at hp HSN
          obtain ⟨v2, out2, rfl, hk7⟩ := HKd.out.called hb6 e6 hp
          refine ⟨_, rfl, ?_⟩
          have hc7 := hk7.kc
          refine hK.out _ _ hc7 (fun hHeld => ?_)
          clear hK K
          refine norm_ (a' := ?_) ?_ ?_
          rotate_left
          · show Act.put _ (some 44) _ = _
            simp only [Act.put, List.setIfInBounds_toArray, List.set_cons_zero, List.set_cons_succ, i64_w, i32_w]
            try rfl
          refine one_ (i := 11) (N := some 45) #[true, true, true, true, true, true, true, true, true, true, true, true, false, false, false] rfl rfl (by kernel_rfl) (by decide) (fun K hK => ?_)
          refine event_step (w1 := w7.alloc (.cells #[.int .i64 (r2.2 : Int)] 3)) (v := .slice (some ⟨w7.heap.size, 0, none⟩) 1 1) (by rfl) (by go_simp) ?_
          have hc8 := pw_cell_below (below_alloc (Below.refl w7.heap.size w7) (.cells #[.int .i64 (r2.2 : Int)] 3)) hc7
          refine hK.out _ _ hc8 (fun hHeld => ?_)
          clear hK K
          refine norm_ (a' := ?_) ?_ ?_
          rotate_left
          · show Act.put _ (some 45) _ = _
            simp only [Act.put, List.setIfInBounds_toArray, List.set_cons_zero, List.set_cons_succ, i64_w, i32_w]
            try rfl
          refine one_ (i := 12) (N := some 46) #[true, true, true, true, true, true, true, true, true, true, true, true, true, false, false] rfl rfl (by kernel_rfl) (by decide) (fun K hK => ?_)
          refine Kd.R_append_step (Kd.int .i64) (w0 := w7) w.heap.size (by rfl) (.tmp 35) (.tmp 45) 29 3 (.int .i64 0) 8 rfl Tryd.underlying29 info3 rfl (by decide) (by omega) kv r.2 (r2.2 : Int) [.int .i64 (r2.2 : Int)] (fun _ => True) (fun _ => False) rfl rfl rfl (fun _ hk => hk.elim) (fun _ _ => trivial) hk7.kids (Below.refl _ _) hk7.bs ?hl ?_
          case hl => omega
          intro v1 w8 hO8 hB8 hg8 hat8
          obtain ⟨A8, c8, rfl⟩ := Kd.R_slice hO8
          have hk8 := hk7.grown hO8 hg8 hat8
          have hc9 := hk7.kc2 hg8
          have hf9 := hk7.kf2 hg8
          refine hK.out _ _ hc9 (fun hHeld => ?_)
          clear hK K
          refine norm_ (a' := ?_) ?_ ?_
          rotate_left
          · show Act.put _ (some 46) _ = _
            simp only [Act.put, List.setIfInBounds_toArray, List.set_cons_zero, List.set_cons_succ, i64_w, i32_w]
            try rfl
          refine pure_ (i := 13) (N := some 47) (v := ?_) (a' := ?_) #[true, true, true, true, true, true, true, true, true, true, true, true, true, true, false] rfl rfl (by kernel_rfl) (fun _ _ _ h => h) (Or.inl ⟨by rfl, ?_⟩) ?_ ?_
          rotate_left
          · intro w'
            go_simp
            with_reducible rfl
          rotate_left
          · simp only [Act.put, List.setIfInBounds_toArray, List.set_cons_zero, List.set_cons_succ, i64_w, i32_w]
            rfl
          refine last_ (i := 14) (N := none) #[true, true, true, true, true, true, true, true, true, true, true, true, true, true, true] rfl rfl (by kernel_rfl) (by decide) (fun K hK => ?_)
          refine skip_step (w1 := w8.setCell ⟨w1.heap.size + 1 + 1, 2, none⟩ (.slice A8 (r.2 ++ [(r2.2 : Int)]).length c8)) (by rfl) (by go_simp) ?_
          refine hK.out _ _ ?_
          clear hK K
          refine norm_ (a' := ?_) ?_ ?_
          rotate_left
          · show Act.put _ none _ = _
            simp only [Act.put, List.setIfInBounds_toArray, List.set_cons_zero, List.set_cons_succ, i64_w, i32_w]
            try rfl
          refine done_ (by kernel_rfl) ?_
          have hk9 := hk8
          clear hk8
          rw [show ((r2.1, r.2 ++ [(r2.2 : Int)]) : List TM.Nd × List Int) = TM.kidsT ((ts.map nds).take (j + 1)) [] from HSN.out.symm] at hk9
          have HK9 := Lib.hid hk9
          generalize Value.slice A8 (r.2 ++ [(r2.2 : Int)]).length c8 = v8 at HK9 ⊢
          clear hk9 hc9 hf9 hO8 hB8 hg8 hat8 hc8 hc7 hk7 hp hc6 hws hb6 e6 HKd hcd
          go_wp2
          go_roundw
          case rel => exact ⟨j + 1, by omega, by go_num, _, _, _, HK9⟩
          case measure => simp [intOf]; omega
        · obtain rfl : j = ts.length := by omega
          obtain ⟨p1, p2, p3, p4, p5⟩ := kidsT_spec ((ts.map nds).take ts.length) [] (fun t ht => may_nds HAM.out t (List.mem_of_mem_take ht)) TM.Ok.nil
          have p6 := sum_nds ts ts.length
          rw [show (ts.map nds).take ts.length = ts.map nds from List.take_of_length_le (by simp)] at p1 p2 p3 p4 p5 p6 HK
          have hS2 : plantS k p ts = (TM.put (TM.kidsT (ts.map nds) []).1 (k, p, (TM.kidsT (ts.map nds) []).2)).1 := HS.out
          simp only [List.length_map, List.length_nil, Nat.zero_add] at p3 p5
          have hr1 := HK.out.r1
          generalize TM.kidsT (ts.map nds) [] = r at HK p1 p2 p3 p4 p5 hS2 hr1
          rw [← hr1, nds_length] at p5
          rw [← hr1] at p1 hS2
          have hok : TM.ok out'.length (ndOf ⟨k, p, r.2⟩) := by
            refine ⟨by simp only [ndOf]; rw [p3]; exact HFIT.out, fun x hx => ?_⟩
            have := p4 x hx
            rw [← hr1, nds_length] at this
            exact this
          have hnds := nds_putS out' ⟨k, p, r.2⟩
          have hpl : (putS out' ⟨k, p, r.2⟩).length ≤ 100000 := by
            have h1 : (putS out' ⟨k, p, r.2⟩).length ≤ out'.length + 1 := by
              unfold putS
              split
              · omega
              · simp
            omega
          have ho2 : out'.length ≤ 100000000000 := by omega
          have hkb0 := HK.out.c0
          have hkb1 := HK.out.c1
          have hkb2 := HK.out.kc
          have HP1 := Lib.hid p1
          have HOK := Lib.hid hok
          have HS2 := Lib.hid (hnds.trans hS2.symm)
          clear p1 p2 p3 p4 p5 p6 hok hS2 hnds hr1
          go_wp2_with fail
          refine (put_any w.heap.size (w1.heap.size + 1) w1.heap.size (fun _ => True) v' out' ⟨k, p, r.2⟩ kv wr (HK.out.sh.mono (fun _ _ => trivial)) (fun _ _ => trivial) HK.out.bs HP1.out HOK.out HK.out.kids (HT.out.later (Nat.le_refl _) HK.out.bw) ho2).mono ?_
          rintro e w7 ⟨v7, rfl, hs7, hm7, hat7⟩
          have hb7 : Below w.heap.size w w7 := hm7.below HK.out.bw HK.out.bs (by
            rintro i (e | e | e)
            · have := HK.out.sh.hs; omega
            · have := HK.out.sh.hm; omega
            · exact Kd.R_base HK.out.sh.row i e.symm)
          have hc7 := hs7.c0
          generalize putS out' ⟨k, p, r.2⟩ = out7 at hs7 hpl HS2
          obtain ⟨A7, c7, rfl, _, _⟩ := Kd.R_reads hs7.row
          have hgt : decide ((100000 : Int) < (out7.length : Int)) = false := decide_eq_false (by omega)
          have hpl64 : out7.length ≤ 9223372036854775807 := by omega
          have HS7 := Lib.hid hs7
          have HB7 := Lib.hid hb7
          clear hs7 hm7 hat7 hb7
          go_wp2
          go_ret2
          exact ⟨_, out7, by rw [HE.out]; rfl, HS2.out, HS7.out.row, HB7.out⟩
end Go.Proofs.YtlgnogpjmdhflaaDoor
