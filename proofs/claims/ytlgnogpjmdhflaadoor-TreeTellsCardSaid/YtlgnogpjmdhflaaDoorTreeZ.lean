/- The document's Plant. -/
import Derived.Test.YtlgnogpjmdhflaaDoorTreeY
namespace Go.Proofs.YtlgnogpjmdhflaaDoor
open Go.RowKit Go.Proofs.YtlgnogpjmdhflaaDoorW.PrintWords Go.Proofs.YtlgnogpjmdhflaaDoorW.PrintLast Go.Proofs.YtlgnogpjmdhflaaDoorW.PrintMore Go.Proofs.YtlgnogpjmdhflaaDoor.PRef Go.Maps
set_option linter.unusedVariables false
set_option linter.unusedSimpArgs false

theorem TM.flat_snoc (t : List TM.Nd) : ∀ (ts : List (List TM.Nd)) (all : List TM.Nd) (roots : List Int), TM.flatAcc (ts ++ [t]) all roots =
    ((TM.flatAcc ts all roots).1 ++ t.map (TM.shift (TM.flatAcc ts all roots).1.length), (TM.flatAcc ts all roots).2 ++ [(((TM.flatAcc ts all roots).1.length + t.length : Nat) : Int) - 1]) := by
  intro ts
  induction ts with
  | nil => intro all roots; rfl
  | cons a ts ih => intro all roots; simp only [List.cons_append, TM.flatAcc, ih]
def shift7 (f : Nat) (n : S46) : S47 := ⟨n.f0, n.f1, n.f2.map (· + (f : Int))⟩
/-- The first trees, one behind the other, and their roots. -/
def flat7 (ts : List (List S46)) : Nat → List S47 × List Int
  | 0 => ([], [])
  | i + 1 => ((flat7 ts i).1 ++ (rdT ts i).map (shift7 (flat7 ts i).1.length), (flat7 ts i).2 ++ [(((flat7 ts i).1.length + (rdT ts i).length : Nat) : Int) - 1])
theorem flat7_eq (ts : List (List S46)) : ∀ i, i ≤ ts.length → nds7 (flat7 ts i).1 = (TM.flatAcc ((ts.map nds).take i) [] []).1 ∧ (flat7 ts i).2 = (TM.flatAcc ((ts.map nds).take i) [] []).2 := by
  intro i
  induction i with
  | zero => intro _; exact ⟨rfl, rfl⟩
  | succ i ih =>
    intro hi
    obtain ⟨h1, h2⟩ := ih (by omega)
    have e := take_snocT (ts := ts) (j := i) (by omega)
    rw [← e, TM.flat_snoc]
    have hl : (TM.flatAcc ((ts.map nds).take i) [] []).1.length = (flat7 ts i).1.length := by rw [← h1, nds7_length]
    simp only [flat7]
    refine ⟨?_, ?_⟩
    · rw [hl, ← h1]
      unfold nds7 nds
      rw [List.map_append, List.map_map, List.map_map]
      congr 1
    · rw [h2, hl, nds_length]
theorem flat7_len (ts : List (List S46)) (h : ∀ t ∈ ts, t.length ≤ 200) : ∀ i, i ≤ ts.length → (flat7 ts i).1.length ≤ 200 * i ∧ (flat7 ts i).2.length = i := by
  intro i
  induction i with
  | zero => intro _; exact ⟨by simp [flat7], rfl⟩
  | succ i ih =>
    intro hi
    obtain ⟨h1, h2⟩ := ih (by omega)
    have := h _ (rdT_mem (ts := ts) (j := i) (by omega))
    simp only [flat7, List.length_append, List.length_map, List.length_singleton]
    omega

def kT7 : Kd (List S47) := Kd.slice 47 k47
def conv2 (ts : List (List S46)) : List (List S47) := ts.map fun l => l.map conv
theorem conv2_length (ts : List (List S46)) : (conv2 ts).length = ts.length := List.length_map _
theorem at_T7 {w : World} {A : Option Addr} {n : Nat} {ts : List (List S46)} (h : kT7.C w A n (conv2 ts)) (j : Nat) (h1 : j < n) : ∃ ad A2 c2, A = some ad ∧ w.cell? (ad.add j) = some (.slice A2 (rdT ts j).length c2) ∧ (rdT ts j).length ≤ c2 ∧ k47.C w A2 (rdT ts j).length ((rdT ts j).map conv) := by
  have hn : ts.length = n := by rw [← conv2_length]; exact h.1
  obtain ⟨ad, c, e, _, ⟨A2, c2, rfl, hl, hC⟩, hc⟩ := Kd.C_get h [] (j : Int) (by omega) (by omega)
  simp only [Int.toNat_natCast] at hl hC hc
  have e2 : (conv2 ts).getD j [] = (rdT ts j).map conv := by
    unfold conv2 rdT
    simp [List.getD_eq_getElem?_getD, List.getElem?_eq_getElem (show j < ts.length by omega)]
  rw [e2] at hl hC hc
  rw [List.length_map] at hl hC hc
  have := hc 0 _ rfl
  refine ⟨ad, A2, c2, e, ?_, hl, hC⟩
  rw [show kT7.sz = 1 from rfl, Nat.mul_one, Nat.add_zero] at this
  exact this

/-- Between two trees. -/
structure P7 (ts : List (List S46)) (w : World) (i : Nat) (va vr : Value) (wr : World) : Prop where
  all : Kd.N k47 47 wr w.heap.size (fun k => some k ≠ vr.ownBlock) va (flat7 ts i).1
  roots : (Kd.int .i64).R 3 wr w.heap.size (fun k => some k ≠ va.ownBlock) vr (flat7 ts i).2
  bw : Below w.heap.size w wr
theorem P7.step {ts : List (List S46)} {w : World} {i : Nat} {va vr : Value} {wr wr' : World} (h : P7 ts w i va vr wr) (hb : Below wr.heap.size wr wr') : P7 ts w i va vr wr' :=
  ⟨Kd.N_below h.all hb, Kd.R_below h.roots hb, h.bw.trans (hb.mono h.bw.size)⟩
/-- Between two nodes of a tree. -/
structure M7 (ts : List (List S46)) (w : World) (i q : Nat) (va vr : Value) (wr : World) : Prop where
  all : Kd.N k47 47 wr w.heap.size (fun k => some k ≠ vr.ownBlock) va ((flat7 ts i).1 ++ ((rdT ts i).take q).map (shift7 (flat7 ts i).1.length))
  roots : (Kd.int .i64).R 3 wr w.heap.size (fun k => some k ≠ va.ownBlock) vr (flat7 ts i).2
  bw : Below w.heap.size w wr
/-- Between two kids of a node. -/
structure O7 (ts : List (List S46)) (w : World) (i q : Nat) (n : S46) (j : Nat) (va vr vo : Value) (B9 : Nat) (KA : Option Addr) (kc : Nat) (wr : World) : Prop where
  all : Kd.N k47 47 wr w.heap.size (fun k => some k ≠ vr.ownBlock ∧ some k ≠ vo.ownBlock) va ((flat7 ts i).1 ++ ((rdT ts i).take q).map (shift7 (flat7 ts i).1.length))
  roots : (Kd.int .i64).R 3 wr w.heap.size (fun k => some k ≠ va.ownBlock ∧ some k ≠ vo.ownBlock) vr (flat7 ts i).2
  own : (Kd.int .i64).R 3 wr w.heap.size (fun k => some k ≠ va.ownBlock ∧ some k ≠ vr.ownBlock) vo ((n.f2.take j).map (· + ((flat7 ts i).1.length : Int)))
  box : wr.heap[B9]? = some (.cells #[.int .i64 n.f0, .int .i64 n.f1, .slice KA n.f2.length kc] 47 (0, 0))
  bw : Below w.heap.size w wr
section
variable {ts : List (List S46)} {w wr w2 : World} {i q j : Nat} {n : S46} {va vr vo v1 : Value} {B9 : Nat} {KA : Option Addr} {kc : Nat}
theorem P7.begin (h : P7 ts w i va vr wr) : M7 ts w i 0 va vr wr := ⟨by simpa using h.all, h.roots, h.bw⟩
theorem M7.begin (h : M7 ts w i q va vr wr) (n : S46) (KA : Option Addr) (kc : Nat) : O7 ts w i q n 0 va vr (.slice (some ⟨wr.heap.size + 1, 0, none⟩) 0 0) wr.heap.size KA kc ((wr.alloc (.cells #[.int .i64 n.f0, .int .i64 n.f1, .slice KA n.f2.length kc] 47)).alloc (.cells #[] 3)) := by
  have hb1 := below_alloc (Below.refl wr.heap.size wr) (.cells #[.int .i64 n.f0, .int .i64 n.f1, .slice KA n.f2.length kc] 47)
  have hb2 := hb1.alloc hb1.size (.cells #[] 3)
  have ho : ∀ k, k < wr.heap.size → some k ≠ (Value.slice (some ⟨wr.heap.size + 1, 0, none⟩) 0 0).ownBlock := fun k hk e => by
    simp [Value.ownBlock] at e
    omega
  refine ⟨Kd.N_mono (Kd.N_below (Kd.N_bound h.all) hb2) fun k hk => ⟨hk.1, ho k hk.2⟩, Kd.R_mono (Kd.R_below (Kd.R_bound h.roots) hb2) fun k hk => ⟨hk.1, ho k hk.2.2.1⟩, ?_, ?_, h.bw.trans (hb2.mono h.bw.size)⟩
  · have h2 := R_empty (wr.alloc (.cells #[.int .i64 n.f0, .int .i64 n.f1, .slice KA n.f2.length kc] 47)) w.heap.size (fun k => some k ≠ va.ownBlock ∧ some k ≠ vr.ownBlock) (Nat.le_trans h.bw.size hb1.size) (by
      refine ⟨fun e => ?_, fun e => ?_⟩
      · have := Kd.N_lt h.all _ e.symm; simp at this; omega
      · have := Kd.R_lt h.roots _ e.symm; simp at this; omega)
    simpa using h2
  · rw [(below_alloc (Below.refl _ _) (.cells #[] 3)).block wr.heap.size (by simp)]
    exact heap_alloc_new wr _
theorem O7.fresh (h : O7 ts w i q n j va vr vo B9 KA kc wr) : ∀ k, wr.heap.size ≤ k → some k ≠ va.ownBlock ∧ some k ≠ vr.ownBlock := fun k hk =>
  ⟨fun e => by have := Kd.N_lt h.all k e.symm; omega, fun e => by have := Kd.R_lt h.roots k e.symm; omega⟩
theorem O7.grown (h : O7 ts w i q n j va vr vo B9 KA kc wr) {x : Int} (hx : n.f2.take (j + 1) = n.f2.take j ++ [x])
    (hO : (Kd.int .i64).R 3 w2 w.heap.size (fun k => some k ≠ va.ownBlock ∧ some k ≠ vr.ownBlock) v1 ((n.f2.take j).map (· + ((flat7 ts i).1.length : Int)) ++ [x + ((flat7 ts i).1.length : Int)])) (hb : Below w.heap.size w w2) (hg : wr.grownBy w2 vo.ownBlock) (hat : v1.ownBlock = vo.ownBlock ∨ ∃ b, v1.ownBlock = some b ∧ wr.heap.size ≤ b) :
    O7 ts w i q n (j + 1) va vr v1 B9 KA kc w2 :=
  ⟨Kd.N_after h.all hg hat, Kd.R_after h.roots hg hat, by rw [hx, List.map_append]; exact hO, (hg.block B9 (blk_lt h.box) (Kd.R_ne h.own h.box (by decide))).trans h.box, hb⟩
theorem O7.fin (h : O7 ts w i q n n.f2.length va vr vo B9 KA kc wr) (hq : (rdT ts i).take (q + 1) = (rdT ts i).take q ++ [n])
    (hO : Kd.N k47 47 w2 w.heap.size (fun k => some k ≠ vr.ownBlock) v1 ((flat7 ts i).1 ++ ((rdT ts i).take q).map (shift7 (flat7 ts i).1.length) ++ [shift7 (flat7 ts i).1.length n])) (hb : Below w.heap.size w w2) (hg : wr.grownBy w2 va.ownBlock) (hat : v1.ownBlock = va.ownBlock ∨ ∃ b, v1.ownBlock = some b ∧ wr.heap.size ≤ b) :
    M7 ts w i (q + 1) v1 vr w2 :=
  ⟨by rw [hq, List.map_append, ← List.append_assoc]; exact hO, Kd.R_mono (Kd.R_after (ok := fun _ => True) (Kd.R_mono h.roots fun k hk => ⟨trivial, hk.1⟩) hg hat) fun k hk => hk.2, hb⟩
theorem M7.fin (h : M7 ts w i (rdT ts i).length va vr wr) {x : Int} (hx : x = (((flat7 ts i).1.length + (rdT ts i).length : Nat) : Int) - 1)
    (hO : (Kd.int .i64).R 3 w2 w.heap.size (fun k => some k ≠ va.ownBlock) v1 ((flat7 ts i).2 ++ [x])) (hb : Below w.heap.size w w2) (hg : wr.grownBy w2 vr.ownBlock) (hat : v1.ownBlock = vr.ownBlock ∨ ∃ b, v1.ownBlock = some b ∧ wr.heap.size ≤ b) :
    P7 ts w (i + 1) va v1 w2 := by
  have ha := h.all
  rw [List.take_length] at ha
  exact ⟨Kd.N_mono (Kd.N_after (ok := fun _ => True) (Kd.N_mono ha fun k hk => ⟨trivial, hk⟩) hg hat) fun k hk => hk.2, by rw [hx] at hO; exact hO, hb⟩
end
def Planted7 (k p : Int) (ts : List (List S46)) (w : World) (e : Ending) (w' : World) : Prop :=
  ∃ A' c' out', e = .returned (.tuple #[.slice A' out'.length c', .int .i64 (plantE k p ts)]) ∧ nds7 out' = plantS k p ts ∧ out'.length ≤ c' ∧ k47.C w' A' out'.length out' ∧ Below w.heap.size w w'
theorem planted7_none {k p : Int} {ts : List (List S46)} {w w' : World} (h : plantOk k p ts = false) (hb : Below w.heap.size w w') : Planted7 k p ts w (.returned (.tuple #[.slice none 0 0, .int .i64 1])) w' := by
  obtain ⟨e1, e2⟩ := plant_none h
  exact ⟨none, 0, [], by rw [e2]; rfl, by rw [e1]; rfl, Nat.le_refl _, Kd.C_nil _ _, hb⟩
theorem noneMay_at {ts : List (List S46)} {i : Nat} (hi : i < ts.length) (h : mayB (rdT ts i) = false) : noneMay ts = true := by
  unfold noneMay
  rw [List.any_eq_true]
  exact ⟨_, rdT_mem hi, by simp [h]⟩
theorem noneMay_all {ts : List (List S46)} (h : ∀ j, j < ts.length → mayB (rdT ts j) = true) : noneMay ts = false := by
  unfold noneMay
  rw [List.any_eq_false]
  intro t ht
  obtain ⟨j, hj, rfl⟩ := List.mem_iff_getElem.1 ht
  have := h j hj
  have e : rdT ts j = ts[j] := by unfold rdT; simp [List.getD_eq_getElem?_getD, List.getElem?_eq_getElem hj]
  rw [e] at this
  simp [this]
theorem fits7_any (k p : Int) (n : Nat) (w : World) : Calls Tryd.prog 21 #[.int .i64 k, .int .i64 p, .int .i64 (n : Int)] w fun e w' => e = .returned (.bool (TM.fitsB k p n)) ∧ Below w.heap.size w w' := by
  refine (stratagemref19_Fits.calls k p (n : Int) _ w (fits7 k p n)).mono ?_
  rintro e w' ⟨rfl, hd⟩
  exact ⟨rfl, hd.below⟩
/-- All trees, one behind the other, and a root. -/
def all7 (k p : Int) (ts : List (List S46)) : List S47 := (flat7 ts ts.length).1 ++ [⟨k, p, (flat7 ts ts.length).2⟩]
theorem all7_nds (k p : Int) (ts : List (List S46)) : nds7 (all7 k p ts) = TM.allOf k p (ts.map nds) := by
  obtain ⟨h1, h2⟩ := flat7_eq ts ts.length (Nat.le_refl _)
  have e : (ts.map nds).take ts.length = ts.map nds := List.take_of_length_le (by simp)
  rw [e] at h1 h2
  unfold all7 TM.allOf
  rw [← h1, ← h2]
  simp [nds7, nd7]
theorem flatten_le (B : Nat) : ∀ l : List (List UInt8), (∀ t ∈ l, t.length ≤ B) → l.flatten.length ≤ B * l.length := by
  intro l
  induction l with
  | nil => intro _; simp
  | cons a l ih =>
    intro h
    have h1 := h a (by simp)
    have h2 := ih fun t ht => h t (List.mem_cons_of_mem _ ht)
    simp only [List.flatten_cons, List.length_append, List.length_cons, Nat.mul_add]
    omega
theorem all7_text {k p : Int} {ts : List (List S46)} (hf : TM.fitsB k p ts.length = true) (hm : ∀ t ∈ ts, mayB t = true) (hs : ∀ t ∈ ts, Small t) (h2 : ts.length ≤ 2) :
    TM.Mays (nds7 (all7 k p ts)) ∧ (TM.T (nds7 (all7 k p ts)) ((all7 k p ts).length - 1)).length ≤ 100000 ∧ TM.share (nds7 (all7 k p ts)) = TM.plant k p (ts.map nds) := by
  have hf' : TM.fitsB k p (ts.map nds).length = true := by simpa using hf
  have hm' := may_nds hm
  have hl : (all7 k p ts).length = (TM.allOf k p (ts.map nds)).length := by rw [← all7_nds, nds7_length]
  rw [all7_nds, hl]
  refine ⟨TM.allOf_mays hf' hm', ?_, (TM.plant_eq hf' hm').symm⟩
  rw [TM.allOf_T hf' hm', TM.form_len]
  have h1 := flatten_le 2800 ((ts.map nds).map TM.rootT) fun s hs' => by
    obtain ⟨t', ht', rfl⟩ := List.mem_map.1 hs'
    obtain ⟨t, ht, rfl⟩ := List.mem_map.1 ht'
    unfold TM.rootT
    rw [nds_length]
    exact small_text (hs t ht) (hm t ht)
  simp only [List.length_map] at h1
  have d0 := TM.dg_len k
  have d1 := TM.dg_len p
  unfold TM.head
  simp only [List.length_cons, List.length_append]
  omega

set_option maxHeartbeats 8000000 in
set_option maxRecDepth 100000 in
theorem plant7_any (k p : Int) (A : Option Addr) (c : Nat) (ts : List (List S46)) (w : World) (hC : kT7.C w A ts.length (conv2 ts)) (hc : ts.length ≤ c) (hs : ∀ t ∈ ts, Small t) (h2 : ts.length ≤ 2) :
    Calls Tryd.prog 20 #[.int .i64 k, .int .i64 p, .slice A ts.length c] w (Planted7 k p ts w) := by
  have HC := Lib.hid hC
  have HS := Lib.hid hs
  clear hC hs
  cases hf : TM.fitsB k p ts.length with
  | false =>
    have hno : plantOk k p ts = false := by unfold plantOk; rw [hf]; rfl
    have HNO := Lib.hid hno
    have HF := Lib.hid hf
    clear hno hf
    go_enter Tryd.func20, Tryd.ntmps20
    go_wp2_with fail
    refine (fits7_any k p ts.length w).mono ?_
    rintro e w1 ⟨rfl, hb⟩
    rw [HF.out]
    go_wp2
    go_ret2
    exact planted7_none HNO.out hb
  | true =>
    have HF := Lib.hid hf
    clear hf
    go_enter Tryd.func20, Tryd.ntmps20
    go_wp2_with fail
    refine (fits7_any k p ts.length w).mono ?_
    rintro e w1 ⟨rfl, hb⟩
    rw [HF.out]
    have hP0 : P7 ts w 0 (.slice (some ⟨w1.heap.size, 0, none⟩) 0 0) (.slice (some ⟨w1.heap.size + 1, 0, none⟩) 0 0) ((w1.alloc (.cells #[] 47)).alloc (.cells #[] 3)) := by
      have hb1 := hb.alloc hb.size (.cells #[] 47)
      have h1 := row_lit w1 w.heap.size (fun k => some k ≠ (Value.slice (some ⟨w1.heap.size + 1, 0, none⟩) 0 0).ownBlock) hb.size (by simp [Value.ownBlock])
      have h2 := R_empty (w1.alloc (.cells #[] 47)) w.heap.size (fun k => some k ≠ (Value.slice (some ⟨w1.heap.size, 0, none⟩) 0 0).ownBlock) hb1.size (by simp [Value.ownBlock])
      rw [show (w1.alloc (.cells #[] 47)).heap.size = w1.heap.size + 1 from by simp] at h2
      exact ⟨Kd.N_alloc h1 _, h2, hb1.alloc hb1.size _⟩
    have HP0 := Lib.hid hP0
    have hs1 := hb.size
    clear hP0 hb
    go_wp2_with fail
    go_loopw [8, 9, 10] (fun v8 v9 v10 wr => ∃ i : Nat, i ≤ ts.length ∧ v10 = .int .i64 i ∧ Hid (∀ j, j < i → mayB (rdT ts j) = true) ∧ Hid (P7 ts w i v8 v9 wr)) (fun _ _ v _ => ts.length - (intOf v).toNat)
    case atStart => exact ⟨0, Nat.zero_le _, rfl, Lib.hid (fun j hj => absurd hj (Nat.not_lt_zero j)), HP0⟩
    case round =>
      clear HP0
      obtain ⟨i, hi, rfl, HM, HP⟩ := hrel
      by_cases hlt : i < ts.length
      · obtain ⟨ad, A2, c2, rfl, hct, hc2, hCt⟩ := at_T7 HC.out i hlt
        have HCT0 := Lib.hid hct
        have HCT1 := Lib.hid hCt
        have HSi := Lib.hid (HS.out _ (rdT_mem hlt))
        have hl2 := HSi.out.1
        have hfl := (flat7_len ts (fun t ht => (HS.out t ht).1) i hi).1
        have hfl2 := (flat7_len ts (fun t ht => (HS.out t ht).1) i hi).2
        replace hct := cell_w HP.out.bw hct
        clear hCt
        go_wp2_with fail
        refine (may7_any A2 c2 (rdT ts i) wr (Kd.C_below HCT1.out HP.out.bw) hc2 (by omega) (kids9 HSi.out.2.1)).mono ?_
        rintro e w2 ⟨rfl, hb⟩
        cases hmay : mayB (rdT ts i) with
        | false =>
          have hno : plantOk k p ts = false := by unfold plantOk; rw [noneMay_at hlt hmay]; simp
          have hfin := planted7_none (w := w) (w' := w2) hno (HP.out.bw.trans (hb.mono HP.out.bw.size))
          have HFIN := Lib.hid hfin
          clear hno hfin hb hct hmay
          go_wp2
          go_ret2
          exact HFIN.out
        | true =>
          have HM2 : Hid (∀ j, j < i + 1 → mayB (rdT ts j) = true) := Lib.hid fun j hj => by
            by_cases e : j = i
            · subst e; exact hmay
            · exact HM.out j (by omega)
          obtain ⟨hMays, hl0, _⟩ := (mayB_iff (rdT ts i)).1 hmay
          have HMays := Lib.hid hMays
          have HP2 := Lib.hid (HP.out.step hb)
          clear hmay hMays hct hb HP
          obtain ⟨A8, c8, rfl, hc8, _⟩ := Kd.N_reads HP2.out.all
          have hct := cell_w HP2.out.bw HCT0.out
          have hM0 := Lib.hid (HP2.out.begin)
          generalize hF : (flat7 ts i).1.length = F at hfl hc8 hM0 ⊢
          have HF7 := Lib.hid hF
          have hlr : (flat7 ts i).2.length ≤ 17592186044414 := by omega
          clear hF hfl2
          go_wp2_with fail
          go_loopw [8, 12] (fun v8 v12 wq => ∃ q : Nat, q ≤ (rdT ts i).length ∧ v12 = .int .i64 q ∧ Hid (M7 ts w i q v8 u9 wq)) (fun _ v _ => (rdT ts i).length - (intOf v).toNat)
          case atStart => exact ⟨0, Nat.zero_le _, rfl, hM0⟩
          case round =>
            clear hM0 HP2
            obtain ⟨q, hq, rfl, HMq⟩ := hrel
            by_cases hqlt : q < (rdT ts i).length
            · obtain ⟨at2, KA, kc, rfl, hn0, hn1, hn2, hkl, hkC⟩ := at_T47 HCT1.out (q : Int) (by omega) (by omega)
              rw [rd7 (rdT ts i) q hqlt] at hn0 hn1 hn2 hkl hkC
              simp only [Int.toNat_natCast] at hn0 hn1 hn2
              have hmq := HMays.out q (by rw [nds_length]; exact hqlt)
              rw [nd_nds (rdT ts i) q hqlt] at hmq
              have htk : (rdT ts i).take (q + 1) = (rdT ts i).take q ++ [rd_T46 (rdT ts i) q] := by
                rw [List.take_succ_eq_append_getElem hqlt]; unfold rd_T46; simp [List.getD_eq_getElem?_getD, List.getElem?_eq_getElem hqlt]
              generalize rd_T46 (rdT ts i) q = n at hn0 hn1 hn2 hkl hkC hmq htk
              have hk64 := (TM.fits_bd hmq.1).2.2
              change n.f2.length ≤ 64 at hk64
              have hkr : ∀ x ∈ n.f2, 0 ≤ x ∧ x < q := hmq.2
              change w.cell? _ = some (.int .i64 n.f0) at hn0
              change w.cell? _ = some (.int .i64 n.f1) at hn1
              change w.cell? _ = some (.slice KA n.f2.length kc) at hn2
              change n.f2.length ≤ kc at hkl
              change (Kd.int .i64).C w KA n.f2.length n.f2 at hkC
              replace hn0 := cell_w HMq.out.bw hn0
              replace hn1 := cell_w HMq.out.bw hn1
              replace hn2 := cell_w HMq.out.bw hn2
              have hct := cell_w HMq.out.bw HCT0.out
              have HKC := Lib.hid hkC
              have HTK := Lib.hid htk
              have HKR := Lib.hid hkr
              have HO0 := Lib.hid (HMq.out.begin n KA kc)
              clear hkC htk hkr hmq
              go_wp2_with fail
              obtain ⟨wq, rfl⟩ : ∃ wq : World, wq = wr := ⟨_, rfl⟩
              go_loopw [14, 15] (fun v14 v15 wz => ∃ j : Nat, j ≤ n.f2.length ∧ v15 = .int .i64 j ∧ Hid (O7 ts w i q n j u8 u9 v14 wq.heap.size KA kc wz)) (fun _ v _ => n.f2.length - (intOf v).toNat)
              case atStart => exact ⟨0, Nat.zero_le _, rfl, HO0⟩
              case round =>
                clear HO0
                obtain ⟨j, hj, rfl, HOj⟩ := hrel
                have hbx : wr.cell? ⟨wq.heap.size, 2, none⟩ = some (.slice KA n.f2.length kc) := by rw [cell_of_row _ wq.heap.size 2 _ _ _ HOj.out.box]; rfl
                have hbx0 : wr.cell? ⟨wq.heap.size, 0, none⟩ = some (.int .i64 n.f0) := by rw [cell_of_row _ wq.heap.size 0 _ _ _ HOj.out.box]; rfl
                have hbx1 : wr.cell? ⟨wq.heap.size, 1, none⟩ = some (.int .i64 n.f1) := by rw [cell_of_row _ wq.heap.size 1 _ _ _ HOj.out.box]; rfl
                by_cases hjlt : j < n.f2.length
                · obtain ⟨ak, rfl, hck⟩ := Kd.at_int HKC.out (j : Int) (by omega) (by omega)
                  simp only [Int.toNat_natCast] at hck
                  replace hck := cell_w HOj.out.bw hck
                  have hkx := HKR.out _ (rd_mem n.f2 j hjlt)
                  have htj : n.f2.take (j + 1) = n.f2.take j ++ [rd n.f2 j] := by rw [List.take_succ_eq_append_getElem hjlt]; simp [rd, List.getD_eq_getElem?_getD, List.getElem?_eq_getElem hjlt]
                  generalize rd n.f2 j = x at hck hkx htj
                  obtain ⟨hx0, hx1⟩ := hkx
                  have HTJ := Lib.hid htj
                  have hlo : ((n.f2.take j).map (· + ((flat7 ts i).1.length : Int))).length ≤ 17592186044414 := by rw [List.length_map, List.length_take]; omega
                  have hbs := HOj.out.bw.size
                  clear htj
                  go_wp2_with (at_builtin; refine app_ints w.heap.size rfl (.tmp 66) (.tmp 74) rfl _ ((n.f2.take j).map (· + ((flat7 ts i).1.length : Int))) (x + (F : Int)) _ rfl rfl HOj.out.fresh HOj.out.own HOj.out.bw hbs hlo ?_; intro v1 w3 hO1 hB1 hg1 hat1)
                  rw [← HF7.out] at hO1
                  have HO1 := Lib.hid (HOj.out.grown HTJ.out hO1 hB1 hg1 hat1)
                  clear hO1 hB1 hg1 hat1 hlo
                  go_wp2
                  go_roundw
                  case rel => exact ⟨j + 1, by omega, by go_num, HO1⟩
                  case measure => simp [intOf]; omega
                · obtain rfl : j = n.f2.length := by omega
                  have hown := HOj.out.own
                  rw [List.take_length] at hown
                  obtain ⟨OA, oc, hvo, hoc, _⟩ := Kd.R_reads hown
                  have hFK : Kd.FK k47 wr (fun k => some k ≠ u8.ownBlock ∧ some k ≠ u9.ownBlock) (shift7 (flat7 ts i).1.length n) [.int .i64 n.f0, .int .i64 n.f1, .slice OA n.f2.length oc] := by
                    rw [hvo] at hown
                    have h := k47_mkF wr (fun k => some k ≠ u8.ownBlock ∧ some k ≠ u9.ownBlock) (shift7 (flat7 ts i).1.length n) hoc (Kd.R_F hown)
                    rw [show (shift7 (flat7 ts i).1.length n).f2.length = n.f2.length from List.length_map _] at h
                    exact h
                  rw [List.length_map] at hvo
                  have HFK := Lib.hid hFK
                  have hla : (((flat7 ts i).1 ++ ((rdT ts i).take q).map (shift7 (flat7 ts i).1.length)).length + 1) * 40 ≤ 140737488355328 := by
                    rw [List.length_append, List.length_map, List.length_take, HF7.out]; omega
                  have hbs := HOj.out.bw.size
                  clear hown hFK
                  subst hvo
                  go_wp2_with (at_builtin; refine Kd.N_append k47 (w0 := w) w.heap.size rfl (.tmp 76) (.tmp 83) 26 47 (.agg #[(.int .i64 0), (.int .i64 0), (.slice none 0 0)]) 40 rfl Tryd.underlying26 info47 rfl (by decide) (by omega) _ ((flat7 ts i).1 ++ ((rdT ts i).take q).map (shift7 (flat7 ts i).1.length)) (shift7 (flat7 ts i).1.length n) [.int .i64 n.f0, .int .i64 n.f1, .slice OA n.f2.length oc] (fun k => some k ≠ u9.ownBlock) (fun k => some k ≠ u8.ownBlock ∧ some k ≠ u9.ownBlock) rfl rfl HFK.out (fun k hk => ⟨hk.2, hk.1⟩) (fun k hk => (HOj.out.fresh k hk).2) (Kd.N_mono HOj.out.all (fun k hk => hk.1)) HOj.out.bw hbs hla ?_; intro v1 w3 hO1 hB1 hg1 hat1)
                  have HM3 := Lib.hid (HOj.out.fin HTK.out hO1 hB1 hg1 hat1)
                  clear hO1 hB1 hg1 hat1 hla
                  go_wp2
                  go_roundw
                  case rel => exact ⟨q + 1, by omega, by go_num, HM3⟩
                  case measure => simp [intOf]; omega
            · obtain rfl : q = (rdT ts i).length := by omega
              have hct := cell_w HMq.out.bw HCT0.out
              have hall := HMq.out.all
              rw [List.take_length] at hall
              obtain ⟨A8', c8', hv8, hc8', _⟩ := Kd.N_reads hall
              rw [List.length_append, List.length_map, HF7.out] at hv8 hc8'
              have hbs := HMq.out.bw.size
              have hfr9 : ∀ k, wr.heap.size ≤ k → some k ≠ u8.ownBlock := fun k hk e => by have := Kd.N_lt hall k e.symm; omega
              have hxx : ((F : Int) + ((rdT ts i).length : Int)) - 1 = (((flat7 ts i).1.length + (rdT ts i).length : Nat) : Int) - 1 := by rw [HF7.out]; omega
              have HXX := Lib.hid hxx
              clear hall hxx
              subst hv8
              go_wp2_with (at_builtin; refine app_ints w.heap.size rfl (.tmp 85) (.tmp 89) rfl _ (flat7 ts i).2 ((F : Int) + ((rdT ts i).length : Int) - 1) _ rfl rfl hfr9 HMq.out.roots HMq.out.bw hbs hlr ?_; intro v1 w3 hO1 hB1 hg1 hat1)
              have HP3 := Lib.hid (HMq.out.fin HXX.out hO1 hB1 hg1 hat1)
              clear hO1 hB1 hg1 hat1 hfr9
              go_wp2
              go_roundw
              case rel => exact ⟨i + 1, by omega, by go_num, HM2, HP3⟩
              case measure => simp [intOf]; omega
      · obtain rfl : i = ts.length := by omega
        obtain ⟨hfl, hfl2⟩ := flat7_len ts (fun t ht => (HS.out t ht).1) ts.length (Nat.le_refl _)
        have hno : noneMay ts = false := noneMay_all HM.out
        obtain ⟨RA, rc, hvr, hrc, _⟩ := Kd.R_reads HP.out.roots
        have hFK : Kd.FK k47 wr (fun x => some x ≠ u8.ownBlock) (⟨k, p, (flat7 ts ts.length).2⟩ : S47) [.int .i64 k, .int .i64 p, .slice RA ts.length rc] := by
          have hroots := HP.out.roots
          rw [hvr] at hroots
          have h := k47_mkF wr (fun x => some x ≠ u8.ownBlock) (⟨k, p, (flat7 ts ts.length).2⟩ : S47) hrc (Kd.R_F hroots)
          rw [hfl2] at h
          exact h
        rw [hfl2] at hvr hrc
        have HFK := Lib.hid hFK
        have hla : ((flat7 ts ts.length).1.length + 1) * 40 ≤ 140737488355328 := by omega
        have hbs := HP.out.bw.size
        have HNO := Lib.hid hno
        have HT := Lib.hid (all7_text (k := k) (p := p) HF.out (all_may hno) HS.out h2)
        have HL := Lib.hid (show (all7 k p ts).length = (flat7 ts ts.length).1.length + 1 by simp [all7])
        clear hFK hno hfl2
        subst hvr
        go_wp2_with (at_builtin; refine Kd.N_append k47 (w0 := w) w.heap.size rfl (.tmp 91) (.tmp 96) 26 47 (.agg #[(.int .i64 0), (.int .i64 0), (.slice none 0 0)]) 40 rfl Tryd.underlying26 info47 rfl (by decide) (by omega) _ (flat7 ts ts.length).1 (⟨k, p, (flat7 ts ts.length).2⟩ : S47) [.int .i64 k, .int .i64 p, .slice RA ts.length rc] (fun _ => True) (fun x => some x ≠ u8.ownBlock) rfl rfl HFK.out (fun x hx => ⟨trivial, hx⟩) (fun _ _ => trivial) (Kd.N_mono HP.out.all (fun _ _ => trivial)) HP.out.bw hbs hla ?_; intro v1 w3 hO1 hB1 hg1 hat1; obtain ⟨LA, lc, hv1, hlc, hLC⟩ := Kd.N_reads (show Kd.N k47 47 w3 w.heap.size (fun _ => True) v1 (all7 k p ts) from hO1); have hll : (all7 k p ts).length ≤ 1000 := (by rw [HL.out]; omega); have hl0 : 0 < (all7 k p ts).length := (by rw [HL.out]; omega); have HLC := Lib.hid hLC; have HB1 := Lib.hid hB1; clear hO1 hB1 hg1 hat1 hLC hla hfl; subst hv1; have hW := walk7_root LA lc (all7 k p ts) hlc HT.out.1 (by omega) hl0 HT.out.2.1 w3 HLC.out; have HW := Lib.hid hW; clear hW; generalize hAL : (all7 k p ts).length = AL at hll hl0 hlc HW ⊢; have HAL := Lib.hid hAL; clear hAL)
        refine HW.out.mono ?_
        rintro e w4 ⟨TA, tc, OA, oc, out', rfl, hn, hx, ho, hb⟩
        have hfin : Planted7 k p ts w (.returned (.tuple #[.slice OA out'.length oc, .int .i64 0])) w4 := by
          have hok : plantOk k p ts = true := by unfold plantOk; rw [HF.out, HNO.out]; rfl
          refine ⟨OA, oc, out', by unfold plantE; rw [hok]; rfl, ?_, ho, hx, HB1.out.trans (hb.mono HB1.out.size)⟩
          rw [hn, HT.out.2.2]
          unfold plantS
          rw [hok]
          rfl
        have HFIN := Lib.hid hfin
        clear hn hx hb hfin
        generalize strT (TM.T (nds7 (all7 k p ts)) (AL - 1)) = U
        generalize ((TM.shr (nds7 (all7 k p ts)) AL (AL - 1) []).2 : Int) = r
        go_wp2
        go_ret2
        exact HFIN.out
end Go.Proofs.YtlgnogpjmdhflaaDoor
