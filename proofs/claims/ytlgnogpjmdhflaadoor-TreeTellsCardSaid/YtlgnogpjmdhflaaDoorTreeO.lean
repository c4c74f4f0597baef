/- awake: calls whose answers the document fixes. -/
import Derived.Test.YtlgnogpjmdhflaaDoorTreeN
namespace Go.Proofs.YtlgnogpjmdhflaaDoor
open Go.RowKit Go.Proofs.YtlgnogpjmdhflaaDoorW.PrintWords Go.Proofs.YtlgnogpjmdhflaaDoorW.PrintLast Go.Proofs.YtlgnogpjmdhflaaDoorW.PrintMore Go.Proofs.YtlgnogpjmdhflaaDoor.PRef Go.Maps
set_option linter.unusedVariables false
set_option linter.unusedSimpArgs false

theorem C_lit {α : Type} (d : Kd α) {w : World} {b : Nat} {cs : Array Value} {t : TypeId} {fr : Nat × Nat} (hb : w.heap[b]? = some (.cells cs t fr)) (xs : List α) (hl : xs.length ≤ 9223372036854775807)
    (h : ∀ j p, xs[j]? = some p → d.K w p ((cs.toList.drop (j * d.sz)).take d.sz)) : d.C w (some ⟨b, 0, none⟩) xs.length xs := by
  refine ⟨rfl, hl, fun hn => ⟨⟨b, 0, none⟩, rfl, fun j p hj => ⟨_, d.K_len (h j p hj), h j p hj, fun i u hu => ?_⟩⟩⟩
  have h2 : cs[j * d.sz + i]? = some u := by
    rw [List.getElem?_take] at hu
    split at hu
    · rw [List.getElem?_drop] at hu
      simpa using hu
    · cases hu
  rw [show ((⟨b, 0, none⟩ : Addr).add (j * d.sz + i)) = ⟨b, j * d.sz + i, none⟩ from by simp [Addr.add]; intro h1 h2; omega, cell_of_row _ b _ _ _ _ hb]
  exact h2
def n00 : S46 := ⟨0, 0, []⟩
def tA : List S46 := [n00, n00, ⟨2, 0, [0, 1]⟩]
def tW : List S46 := [n00, ⟨2, 0, [0, 0]⟩]
theorem K_n00 (w : World) : k46.K w n00 [.int .i64 0, .int .i64 0, .slice none 0 0] := k46_mk w n00 (Nat.le_refl _) (Kd.C_nil _ w)
theorem may_tA : mayB tA = true := by decide
theorem may_nil : mayB [] = false := by decide
theorem may_one : mayB [⟨1, 0, []⟩] = false := by decide
theorem size_tA : sizeOf tA = 3 := by decide
theorem depth_tA : depthOf tA = 2 := by decide
theorem share_tA : shareS tA = nds tW := by decide
theorem share_tW : shareS tW = nds tW := by decide
theorem share_n : shareS [n00] = nds [n00] := by decide
theorem plant_p : plantS 2 0 [[n00], [n00]] = nds tW ∧ plantE 2 0 [[n00], [n00]] = 0 := by decide
theorem plant_q : plantS 1 5 [tA] = nds (tW ++ [⟨1, 5, [1]⟩]) ∧ plantE 1 5 [tA] = 0 := by decide
theorem plant_g : plantE 1 64 [tA] = 1 := by decide
theorem same_tA : sameT tA tW = true := by
  unfold sameT
  rw [share_tA, share_tW]
  simp [nds, tW]
theorem same_n : sameT tA [n00] = false := by
  unfold sameT
  rw [share_tA, share_n]
  simp [nds, tW]

theorem blk_new (w : World) (cs : Array Value) (t : TypeId) (k : Nat) (h : k = w.heap.size) : (w.alloc (.cells cs t)).heap[k]? = some (.cells cs t (0, 0)) := by
  subst h
  exact heap_alloc_new w _
theorem blk_old (w : World) (o : Obj) (k : Nat) (h : k < w.heap.size) : (w.alloc o).heap[k]? = w.heap[k]? := (below_alloc (Below.refl w.heap.size w) o).block k h
theorem C_tA {w : World} {b c : Nat} (h1 : w.heap[b]? = some (.cells #[.int .i64 0, .int .i64 1] 3 (0, 0))) (h2 : w.heap[c]? = some (.cells #[.int .i64 0, .int .i64 0, .slice none 0 0, .int .i64 0, .int .i64 0, .slice none 0 0, .int .i64 2, .int .i64 0, .slice (some ⟨b, 0, none⟩) 2 2] 46 (0, 0))) : k46.C w (some ⟨c, 0, none⟩) 3 tA := by
  have hk : (Kd.int .i64).C w (some ⟨b, 0, none⟩) 2 [0, 1] := C_lit (Kd.int .i64) h1 [0, 1] (by decide) (by
    rintro (_ | _ | j) p hj
    · cases hj; rfl
    · cases hj; rfl
    · simp at hj)
  refine C_lit k46 h2 tA (by decide) ?_
  rintro (_ | _ | _ | j) p hj
  · cases hj; exact K_n00 w
  · cases hj; exact K_n00 w
  · cases hj; exact k46_mk w ⟨2, 0, [0, 1]⟩ (Nat.le_refl _) hk
  · simp [tA] at hj
theorem C_tW {w : World} {b c : Nat} (h1 : w.heap[b]? = some (.cells #[.int .i64 0, .int .i64 0] 3 (0, 0))) (h2 : w.heap[c]? = some (.cells #[.int .i64 0, .int .i64 0, .slice none 0 0, .int .i64 2, .int .i64 0, .slice (some ⟨b, 0, none⟩) 2 2] 46 (0, 0))) : k46.C w (some ⟨c, 0, none⟩) 2 tW := by
  have hk : (Kd.int .i64).C w (some ⟨b, 0, none⟩) 2 [0, 0] := C_lit (Kd.int .i64) h1 [0, 0] (by decide) (by
    rintro (_ | _ | j) p hj
    · cases hj; rfl
    · cases hj; rfl
    · simp at hj)
  refine C_lit k46 h2 tW (by decide) ?_
  rintro (_ | _ | j) p hj
  · cases hj; exact K_n00 w
  · cases hj; exact k46_mk w ⟨2, 0, [0, 0]⟩ (Nat.le_refl _) hk
  · simp [tW] at hj
theorem C_n00 {w : World} {c : Nat} (h2 : w.heap[c]? = some (.cells #[.int .i64 0, .int .i64 0, .slice none 0 0] 46 (0, 0))) : k46.C w (some ⟨c, 0, none⟩) 1 [n00] := by
  refine C_lit k46 h2 [n00] (by decide) ?_
  rintro (_ | j) p hj
  · cases hj; exact K_n00 w
  · simp at hj
theorem C_one {w : World} {c : Nat} (h2 : w.heap[c]? = some (.cells #[.int .i64 1, .int .i64 0, .slice none 0 0] 46 (0, 0))) : k46.C w (some ⟨c, 0, none⟩) 1 [⟨1, 0, []⟩] := by
  refine C_lit k46 h2 [⟨1, 0, []⟩] (by decide) ?_
  rintro (_ | j) p hj
  · cases hj; exact k46_mk w ⟨1, 0, []⟩ (Nat.le_refl _) (Kd.C_nil _ w)
  · simp at hj
theorem C_two {w : World} {A B : Option Addr} {c m n : Nat} {x y : List S46} (h : w.heap[c]? = some (.cells #[.slice A x.length m, .slice B y.length n] 23 (0, 0))) (hx : k46.C w A x.length x) (hm : x.length ≤ m) (hy : k46.C w B y.length y) (hn : y.length ≤ n) : kT.C w (some ⟨c, 0, none⟩) 2 [x, y] := by
  refine C_lit kT h [x, y] (by simp) ?_
  rintro (_ | _ | j) p hj
  · cases hj; exact ⟨A, m, rfl, hm, hx⟩
  · cases hj; exact ⟨B, n, rfl, hn, hy⟩
  · simp at hj
theorem C_single {w : World} {A : Option Addr} {c m : Nat} {x : List S46} (h : w.heap[c]? = some (.cells #[.slice A x.length m] 23 (0, 0))) (hx : k46.C w A x.length x) (hm : x.length ≤ m) : kT.C w (some ⟨c, 0, none⟩) 1 [x] := by
  refine C_lit kT h [x] (by simp) ?_
  rintro (_ | j) p hj
  · cases hj; exact ⟨A, m, rfl, hm, hx⟩
  · simp at hj

def tQ : List S46 := tW ++ [⟨1, 5, [1]⟩]
structure Aw (w W : World) (P Q : Option Addr) : Prop where
  a : k46.C W (some ⟨w.heap.size + 1, 0, none⟩) 3 tA
  b : k46.C W (some ⟨w.heap.size + 1 + 1 + 1, 0, none⟩) 2 tW
  p : k46.C W P 2 tW
  q : k46.C W Q 3 tQ
  tab : Tab W
  below : Below w.heap.size w W
theorem Aw.step {w W W' : World} {P Q : Option Addr} (h : Aw w W P Q) (hb : Below W.heap.size W W') : Aw w W' P Q :=
  ⟨Kd.C_below h.a hb, Kd.C_below h.b hb, Kd.C_below h.p hb, Kd.C_below h.q hb, h.tab.later (Nat.le_refl _) hb, h.below.trans (hb.mono h.below.size)⟩
theorem convs_tW_len : ∀ n ∈ tW.map conv, n.f2.length < 9223372036854775807 := by decide

set_option maxHeartbeats 8000000 in
set_option maxRecDepth 100000 in
theorem awake_any (w : World) (ht : Tab w) : Calls Tryd.prog 6 #[] w fun e w' => e = .returned (.bool true) ∧ Below w.heap.size w w' := by
  have HT := Lib.hid ht
  clear ht
  go_enter Tryd.func6, Tryd.ntmps6
  go_wp2_with fail
  have hb0 : Below w.heap.size w (((((((w.alloc (.cells #[.int .i64 0, .int .i64 1] 3)).alloc (.cells #[.int .i64 0, .int .i64 0, .slice none 0 0, .int .i64 0, .int .i64 0, .slice none 0 0, .int .i64 2, .int .i64 0, .slice (some ⟨w.heap.size, 0, none⟩) 2 2] 46)).alloc (.cells #[.int .i64 0, .int .i64 0] 3)).alloc (.cells #[.int .i64 0, .int .i64 0, .slice none 0 0, .int .i64 2, .int .i64 0, .slice (some ⟨w.heap.size + 1 + 1, 0, none⟩) 2 2] 46)).alloc (.cells #[.int .i64 0, .int .i64 0, .slice none 0 0] 46)).alloc (.cells #[.int .i64 0, .int .i64 0, .slice none 0 0] 46)).alloc (.cells #[.slice (some ⟨w.heap.size + 1 + 1 + 1 + 1, 0, none⟩) 1 1, .slice (some ⟨w.heap.size + 1 + 1 + 1 + 1 + 1, 0, none⟩) 1 1] 23)) :=
    below_alloc (below_alloc (below_alloc (below_alloc (below_alloc (below_alloc (below_alloc (Below.refl w.heap.size w) _) _) _) _) _) _) _
  generalize hX : (((((((w.alloc (.cells #[.int .i64 0, .int .i64 1] 3)).alloc (.cells #[.int .i64 0, .int .i64 0, .slice none 0 0, .int .i64 0, .int .i64 0, .slice none 0 0, .int .i64 2, .int .i64 0, .slice (some ⟨w.heap.size, 0, none⟩) 2 2] 46)).alloc (.cells #[.int .i64 0, .int .i64 0] 3)).alloc (.cells #[.int .i64 0, .int .i64 0, .slice none 0 0, .int .i64 2, .int .i64 0, .slice (some ⟨w.heap.size + 1 + 1, 0, none⟩) 2 2] 46)).alloc (.cells #[.int .i64 0, .int .i64 0, .slice none 0 0] 46)).alloc (.cells #[.int .i64 0, .int .i64 0, .slice none 0 0] 46)).alloc (.cells #[.slice (some ⟨w.heap.size + 1 + 1 + 1 + 1, 0, none⟩) 1 1, .slice (some ⟨w.heap.size + 1 + 1 + 1 + 1 + 1, 0, none⟩) 1 1] 23)) = X at hb0 ⊢
  have hcA : k46.C X (some ⟨w.heap.size + 1, 0, none⟩) 3 tA := by subst hX; exact C_tA (b := w.heap.size) (by (repeat (first | (refine blk_new _ _ _ _ ?_; (first | (simp; done) | (simp; omega))) | (refine (blk_old _ _ _ ?_).trans ?_; focus (first | (simp; done) | (simp; omega)))))) (by (repeat (first | (refine blk_new _ _ _ _ ?_; (first | (simp; done) | (simp; omega))) | (refine (blk_old _ _ _ ?_).trans ?_; focus (first | (simp; done) | (simp; omega))))))
  have hcW : k46.C X (some ⟨w.heap.size + 1 + 1 + 1, 0, none⟩) 2 tW := by subst hX; exact C_tW (b := w.heap.size + 1 + 1) (by (repeat (first | (refine blk_new _ _ _ _ ?_; (first | (simp; done) | (simp; omega))) | (refine (blk_old _ _ _ ?_).trans ?_; focus (first | (simp; done) | (simp; omega)))))) (by (repeat (first | (refine blk_new _ _ _ _ ?_; (first | (simp; done) | (simp; omega))) | (refine (blk_old _ _ _ ?_).trans ?_; focus (first | (simp; done) | (simp; omega))))))
  have hcN : kT.C X (some ⟨w.heap.size + 1 + 1 + 1 + 1 + 1 + 1, 0, none⟩) 2 [[n00], [n00]] := by
    subst hX
    exact C_two (x := [n00]) (y := [n00]) (by (repeat (first | (refine blk_new _ _ _ _ ?_; (first | (simp; done) | (simp; omega))) | (refine (blk_old _ _ _ ?_).trans ?_; focus (first | (simp; done) | (simp; omega)))))) (C_n00 (by (repeat (first | (refine blk_new _ _ _ _ ?_; (first | (simp; done) | (simp; omega))) | (refine (blk_old _ _ _ ?_).trans ?_; focus (first | (simp; done) | (simp; omega))))))) (Nat.le_refl _) (C_n00 (by (repeat (first | (refine blk_new _ _ _ _ ?_; (first | (simp; done) | (simp; omega))) | (refine (blk_old _ _ _ ?_).trans ?_; focus (first | (simp; done) | (simp; omega))))))) (Nat.le_refl _)
  clear hX
  have HA := Lib.hid hcA
  have HW := Lib.hid hcW
  have HB := Lib.hid hb0
  refine (plant_any 2 0 (some ⟨w.heap.size + 1 + 1 + 1 + 1 + 1 + 1, 0, none⟩) 2 [[n00], [n00]] X hcN (Nat.le_refl _) (HT.out.later (Nat.le_refl _) HB.out) (by decide)).mono ?_
  clear hcA hcW hcN hb0
  rintro e w1 ⟨vp, p, rfl, hp, hRp, hb1⟩
  rw [plant_p.1] at hp
  obtain rfl := nds_inj hp
  rw [plant_p.2]
  go_wp2_with fail
  have hA1 := Kd.C_below HA.out (hb1.trans ((below_alloc (Below.refl w1.heap.size w1) (.cells #[.slice (some ⟨w.heap.size + 1, 0, none⟩) 3 3] 23)).mono hb1.size))
  have hcQ : kT.C (w1.alloc (.cells #[.slice (some ⟨w.heap.size + 1, 0, none⟩) 3 3] 23)) (some ⟨w1.heap.size, 0, none⟩) 1 [tA] := C_single (x := tA) (by (repeat (first | (refine blk_new _ _ _ _ ?_; (first | (simp; done) | (simp; omega))) | (refine (blk_old _ _ _ ?_).trans ?_; focus (first | (simp; done) | (simp; omega)))))) hA1 (Nat.le_refl _)
  have HP := Lib.hid (Kd.R_below hRp (below_alloc (Below.refl w1.heap.size w1) (.cells #[.slice (some ⟨w.heap.size + 1, 0, none⟩) 3 3] 23)))
  have HB1 := Lib.hid (hb1.trans ((below_alloc (Below.refl w1.heap.size w1) (.cells #[.slice (some ⟨w.heap.size + 1, 0, none⟩) 3 3] 23)).mono hb1.size))
  generalize (w1.alloc (.cells #[.slice (some ⟨w.heap.size + 1, 0, none⟩) 3 3] 23)) = X1 at hcQ HP HB1 hA1 ⊢
  have HB2 := Lib.hid (HB.out.trans (HB1.out.mono HB.out.size))
  refine (plant_any 1 5 (some ⟨w1.heap.size, 0, none⟩) 1 [tA] X1 hcQ (Nat.le_refl _) (HT.out.later (Nat.le_refl _) HB2.out) (by decide)).mono ?_
  clear hA1 hcQ hRp hb1
  rintro e w2 ⟨vq, q, rfl, hq, hRq, hb2⟩
  rw [plant_q.1] at hq
  obtain rfl := nds_inj hq
  rw [plant_q.2]
  go_wp2_with fail
  have hba := below_alloc (Below.refl w2.heap.size w2) (.cells #[.slice (some ⟨w.heap.size + 1, 0, none⟩) 3 3] 23)
  have hb3 : Below X1.heap.size X1 (w2.alloc (.cells #[.slice (some ⟨w.heap.size + 1, 0, none⟩) 3 3] 23)) := hb2.trans (hba.mono hb2.size)
  have hb3' := HB1.out.trans (hb3.mono HB1.out.size)
  have hA2 := Kd.C_below HA.out hb3'
  have hW2 := Kd.C_below HW.out hb3'
  have hcG : kT.C (w2.alloc (.cells #[.slice (some ⟨w.heap.size + 1, 0, none⟩) 3 3] 23)) (some ⟨w2.heap.size, 0, none⟩) 1 [tA] := C_single (x := tA) (by (repeat (first | (refine blk_new _ _ _ _ ?_; (first | (simp; done) | (simp; omega))) | (refine (blk_old _ _ _ ?_).trans ?_; focus (first | (simp; done) | (simp; omega)))))) hA2 (Nat.le_refl _)
  obtain ⟨P, cp, rfl, hcp, hCP⟩ := Kd.R_reads (Kd.R_below HP.out hb3)
  obtain ⟨Q, cq, rfl, hcq, hCQ⟩ := Kd.R_reads (Kd.R_below hRq hba)
  have HS := Lib.hid (show Aw w _ P Q from ⟨hA2, hW2, hCP, hCQ, HT.out.later (Nat.le_refl _) (HB2.out.trans (hb3.mono HB2.out.size)), HB2.out.trans (hb3.mono HB2.out.size)⟩)
  generalize (w2.alloc (.cells #[.slice (some ⟨w.heap.size + 1, 0, none⟩) 3 3] 23)) = X2 at hcG HS ⊢
  simp only [show (tW ++ [(⟨1, 5, [1]⟩ : S46)]).length = 3 from rfl, show tW.length = 2 from rfl]
  refine (plant_any 1 64 (some ⟨w2.heap.size, 0, none⟩) 1 [tA] X2 hcG (Nat.le_refl _) HS.out.tab (by decide)).mono ?_
  clear HA HW HB HB1 HB2 HP hba hb3 hb3' hA2 hW2 hcG hCP hCQ hRq hb2 hp hq
  rintro e w3 ⟨vg, g, rfl, _, _, hb⟩
  rw [plant_g]
  replace HS := Lib.hid (HS.out.step hb)
  clear hb
  go_wp2_with fail
  refine (may_any _ 3 tA _ HS.out.a (Nat.le_refl _)).mono ?_
  rintro e w4 ⟨rfl, hb⟩
  rw [may_tA]
  replace HS := Lib.hid (HS.out.step hb)
  clear hb
  go_wp2_with fail
  refine (may_any none 0 [] w4 (Kd.C_nil _ _) (Nat.le_refl _)).mono ?_
  rintro e w5 ⟨rfl, hb⟩
  rw [may_nil]
  replace HS := Lib.hid (HS.out.step hb)
  clear hb
  go_wp2_with fail
  have hC1 : k46.C (w5.alloc (.cells #[.int .i64 1, .int .i64 0, .slice none 0 0] 46)) (some ⟨w5.heap.size, 0, none⟩) 1 [⟨1, 0, []⟩] := C_one (by (repeat (first | (refine blk_new _ _ _ _ ?_; (first | (simp; done) | (simp; omega))) | (refine (blk_old _ _ _ ?_).trans ?_; focus (first | (simp; done) | (simp; omega))))))
  replace HS := Lib.hid (HS.out.step (below_alloc (Below.refl w5.heap.size w5) (.cells #[.int .i64 1, .int .i64 0, .slice none 0 0] 46)))
  refine (may_any _ 1 [⟨1, 0, []⟩] _ hC1 (Nat.le_refl _)).mono ?_
  rintro e w6 ⟨rfl, hb⟩
  rw [may_one]
  replace HS := Lib.hid (HS.out.step hb)
  clear hb hC1
  go_wp2_with fail
  refine (size_any _ 3 tA _ HS.out.a (Nat.le_refl _)).mono ?_
  rintro e w7 ⟨rfl, hb⟩
  rw [size_tA]
  replace HS := Lib.hid (HS.out.step hb)
  clear hb
  go_wp2_with fail
  refine (depth_any _ 3 tA _ HS.out.a (Nat.le_refl _)).mono ?_
  rintro e w8 ⟨rfl, hb⟩
  rw [depth_tA]
  replace HS := Lib.hid (HS.out.step hb)
  clear hb
  go_wp2_with fail
  refine (share_any _ 3 tA _ HS.out.a (Nat.le_refl _) HS.out.tab).mono ?_
  rintro e w9 ⟨vs, x, rfl, hx, hRx, hb⟩
  rw [share_tA] at hx
  obtain rfl := nds_inj hx
  obtain ⟨X9, c9, rfl, hc9, hC9⟩ := Kd.R_reads hRx
  replace HS := Lib.hid (HS.out.step hb)
  have H9 := Lib.hid hC9
  clear hb hx hRx hC9
  go_wp2_with fail
  refine (own_any _ c9 tW _ H9.out hc9 (by decide)).mono ?_
  rintro e w10 ⟨O1, c10, rfl, hc10, hC10, hb⟩
  replace HS := Lib.hid (HS.out.step hb)
  have H10 := Lib.hid hC10
  clear hb hC10 H9
  go_wp2_with fail
  refine (own_any _ 2 tW _ HS.out.b (Nat.le_refl _) (by decide)).mono ?_
  rintro e w11 ⟨O2, c11, rfl, hc11, hC11, hb⟩
  replace HS := Lib.hid (HS.out.step hb)
  have H11 := Lib.hid (Kd.C_below H10.out hb)
  have H12 := Lib.hid hC11
  clear hb hC11 H10
  go_wp2_with fail
  refine (equal_any O1 O2 c10 c11 (tW.map conv) (tW.map conv) w11 H11.out hc10 H12.out hc11 (by decide) convs_tW_len).mono ?_
  rintro e w12 ⟨⟨qq, rfl, hqq⟩, hb⟩
  obtain rfl : qq = true := hqq.2 rfl
  replace HS := Lib.hid (HS.out.step hb)
  clear hb hqq H11 H12
  go_wp2_with fail
  refine (same_any tA tW _ _ 3 2 _ HS.out.a (Nat.le_refl _) HS.out.b (Nat.le_refl _) HS.out.tab).mono ?_
  rintro e w13 ⟨rfl, hb⟩
  rw [same_tA]
  replace HS := Lib.hid (HS.out.step hb)
  clear hb
  go_wp2_with fail
  have hC1 : k46.C (w13.alloc (.cells #[.int .i64 0, .int .i64 0, .slice none 0 0] 46)) (some ⟨w13.heap.size, 0, none⟩) 1 [n00] := C_n00 (by (repeat (first | (refine blk_new _ _ _ _ ?_; (first | (simp; done) | (simp; omega))) | (refine (blk_old _ _ _ ?_).trans ?_; focus (first | (simp; done) | (simp; omega))))))
  replace HS := Lib.hid (HS.out.step (below_alloc (Below.refl w13.heap.size w13) (.cells #[.int .i64 0, .int .i64 0, .slice none 0 0] 46)))
  refine (same_any tA [n00] _ _ 3 1 _ HS.out.a (Nat.le_refl _) hC1 (Nat.le_refl _) HS.out.tab).mono ?_
  rintro e w14 ⟨rfl, hb⟩
  rw [same_n]
  replace HS := Lib.hid (HS.out.step hb)
  clear hb hC1
  go_wp2_with fail
  refine (own_any _ cp tW _ HS.out.p hcp (by decide)).mono ?_
  rintro e w15 ⟨O3, c15, rfl, hc15, hC15, hb⟩
  replace HS := Lib.hid (HS.out.step hb)
  have H15 := Lib.hid hC15
  clear hb hC15
  go_wp2_with fail
  refine (own_any _ 2 tW _ HS.out.b (Nat.le_refl _) (by decide)).mono ?_
  rintro e w16 ⟨O4, c16, rfl, hc16, hC16, hb⟩
  replace HS := Lib.hid (HS.out.step hb)
  have H16 := Lib.hid (Kd.C_below H15.out hb)
  have H17 := Lib.hid hC16
  clear hb hC16 H15
  go_wp2_with fail
  refine (equal_any O3 O4 c15 c16 (tW.map conv) (tW.map conv) w16 H16.out hc15 H17.out hc16 (by decide) convs_tW_len).mono ?_
  rintro e w17 ⟨⟨qq, rfl, hqq⟩, hb⟩
  obtain rfl : qq = true := hqq.2 rfl
  replace HS := Lib.hid (HS.out.step hb)
  clear hb hqq H16 H17
  obtain ⟨ad, A2, c2, rfl, hn0, hn1, hn2, _, _⟩ := at_T46 HS.out.q 2 (by omega) (by omega)
  replace hn1 : w17.cell? ⟨ad.block, ad.off + 6 + 1, none⟩ = some (.int .i64 5) := hn1
  clear hn0 hn2
  go_wp2
  go_ret
  exact ⟨rfl, HS.out.below⟩
end Go.Proofs.YtlgnogpjmdhflaaDoor
