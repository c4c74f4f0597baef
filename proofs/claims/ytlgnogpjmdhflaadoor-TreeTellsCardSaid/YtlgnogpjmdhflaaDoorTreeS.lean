/- What TreeSame asks, in plain words. -/
import Derived.Test.YtlgnogpjmdhflaaDoorTreeP
namespace Go.Proofs.YtlgnogpjmdhflaaDoor
open Go.RowKit Go.Proofs.YtlgnogpjmdhflaaDoorW.PrintWords Go.Proofs.YtlgnogpjmdhflaaDoorW.PrintLast Go.Proofs.YtlgnogpjmdhflaaDoorW.PrintMore Go.Proofs.YtlgnogpjmdhflaaDoor.PRef Go.Maps
set_option linter.unusedVariables false
set_option linter.unusedSimpArgs false

theorem share_pos_iff {l : List S46} : 0 < (shareS l).length ↔ mayB l = true := by
  unfold shareS
  split
  · rename_i h
    obtain ⟨h1, h2, _⟩ := (mayB_iff l).1 h
    exact ⟨fun _ => h, fun _ => TM.share_pos h1 (by rw [nds_length]; exact h2)⟩
  · rename_i h
    exact ⟨fun h' => by simp at h', fun h' => absurd h' h⟩
theorem sameT_left {a b : List S46} (h : mayB a = false) : sameT a b = false := by
  have h0 : ¬ 0 < (shareS a).length := fun e => by rw [share_pos_iff.1 e] at h; cases h
  unfold sameT
  rw [decide_eq_false h0]
  rfl
theorem sameT_right {a b : List S46} (h : mayB b = false) : sameT a b = false := by
  cases hs : sameT a b with
  | false => rfl
  | true =>
    exfalso
    unfold sameT at hs
    simp only [Bool.and_eq_true, decide_eq_true_eq] at hs
    rw [hs.2] at hs
    rw [share_pos_iff.1 hs.1] at h
    cases h
theorem sameT_both {a b x y : List S46} (ha : mayB a = true) (hx : nds x = shareS a) (hy : nds y = shareS b) (q : Bool) (hq : q = true ↔ x.map conv = y.map conv) : sameT a b = q := by
  rw [Bool.eq_iff_iff, hq]
  unfold sameT
  simp only [Bool.and_eq_true, decide_eq_true_eq]
  constructor
  · rintro ⟨_, e⟩
    rw [← hx, ← hy] at e
    rw [nds_inj e]
  · intro e
    have := convs_inj e
    subst this
    exact ⟨share_pos_iff.2 ha, by rw [← hx, ← hy]⟩
theorem sameT_symm {a b : List S46} (ha : mayB a = true) (hb : mayB b = true) : sameT b a = sameT a b := by
  rw [Bool.eq_iff_iff]
  unfold sameT
  simp only [Bool.and_eq_true, decide_eq_true_eq]
  constructor
  · rintro ⟨_, e⟩; exact ⟨share_pos_iff.2 ha, e.symm⟩
  · rintro ⟨_, e⟩; exact ⟨share_pos_iff.2 hb, e.symm⟩
theorem sameT_self {a : List S46} (ha : mayB a = true) : sameT a a = true := by
  unfold sameT
  simp [share_pos_iff.2 ha]
theorem noneMay_two {a b : List S46} (ha : mayB a = true) (hb : mayB b = true) : noneMay [a, b] = false := by
  unfold noneMay
  simp [ha, hb]
theorem mays_two {a b : List S46} (ha : mayB a = true) (hb : mayB b = true) : ∀ t ∈ [a, b].map nds, TM.Mays t ∧ 0 < t.length :=
  may_nds (fun t ht => by
    simp only [List.mem_cons, List.not_mem_nil, or_false] at ht
    rcases ht with rfl | rfl
    · exact ha
    · exact hb)
theorem root_shared {a x : List S46} (ha : mayB a = true) (hx : nds x = shareS a) : TM.rootT (nds x) = TM.rootT (nds a) := by
  obtain ⟨h1, h2, _⟩ := (mayB_iff a).1 ha
  have e : shareS a = TM.share (nds a) := by unfold shareS; rw [ha]; rfl
  unfold TM.rootT
  rw [hx, e]
  exact TM.share_T h1 (by rw [nds_length]; exact h2)
/-- What is planted of trees, and of what is shared of them, is one. -/
theorem plant_shared {k p : Int} {a b x y : List S46} (ha : mayB a = true) (hb : mayB b = true) (hx : nds x = shareS a) (hy : nds y = shareS b) : plantS k p [x, y] = plantS k p [a, b] ∧ plantE k p [x, y] = plantE k p [a, b] := by
  have h1 := shared_may ha hx
  have h2 := shared_may hb hy
  have e : plantOk k p [x, y] = plantOk k p [a, b] := by
    unfold plantOk
    rw [noneMay_two ha hb, noneMay_two h1 h2]
    rfl
  unfold plantS plantE
  rw [e]
  refine ⟨?_, rfl⟩
  split
  · rename_i hok
    unfold plantOk at hok
    simp only [Bool.and_eq_true] at hok
    exact TM.plant_congr (by simpa using hok.1) (mays_two h1 h2) (mays_two ha hb) (by simp [root_shared ha hx, root_shared hb hy])
  · rfl
theorem plant_none {k p : Int} {ts : List (List S46)} (h : plantOk k p ts = false) : plantS k p ts = [] ∧ plantE k p ts = 1 := by
  unfold plantS plantE
  rw [h]
  exact ⟨rfl, rfl⟩
/-- What is planted of two trees. -/
theorem plant_two {k p : Int} {a b l : List S46} (ha : mayB a = true) (hb : mayB b = true) (hok : plantOk k p [a, b] = true) (hl : nds l = plantS k p [a, b]) (hsum : a.length + b.length + 1 ≤ 100000) :
    plantE k p [a, b] = 0 ∧ 0 < l.length ∧ (rd_T46 l ((l.length - 1 : Nat) : Int)).f0 = k ∧ (rd_T46 l ((l.length - 1 : Nat) : Int)).f1 = p ∧
    ∃ k0 k1 : Int, (rd_T46 l ((l.length - 1 : Nat) : Int)).f2 = [k0, k1] ∧ (k0 = k1 ↔ sameT a b = true) ∧
    sizeOf l = min TM.top (1 + (sizeOf a + sizeOf b)) ∧ depthOf l = 1 + max (depthOf a) (depthOf b) ∧ (1 ≤ sizeOf a ∧ sizeOf a ≤ TM.top) ∧ (1 ≤ sizeOf b ∧ sizeOf b ≤ TM.top) ∧ (1 ≤ depthOf a ∧ depthOf a ≤ a.length) ∧ (1 ≤ depthOf b ∧ depthOf b ≤ b.length) := by
  have hm := mays_two ha hb
  have hf : TM.fitsB k p ([a, b].map nds).length = true := by
    unfold plantOk at hok
    simp only [Bool.and_eq_true] at hok
    simpa using hok.1
  have hS : plantS k p [a, b] = TM.plant k p ([a, b].map nds) := by unfold plantS; rw [hok]; rfl
  have hE : plantE k p [a, b] = 0 := by unfold plantE; rw [hok]; rfl
  rw [hS] at hl
  have ho := TM.plant_ok hf hm
  have hp := TM.plant_pos hf hm
  obtain ⟨r0, r1, r2⟩ := TM.plant_root hf hm
  rw [← hl] at ho hp r0 r1 r2
  rw [nds_length] at hp r0 r1 r2
  have hlt : l.length - 1 < l.length := by omega
  rw [nd_nds l _ hlt] at r0 r1 r2
  generalize hn : rd_T46 l ((l.length - 1 : Nat) : Int) = n at r0 r1 r2
  have hnd : TM.nd (nds l) (l.length - 1) = ndOf n := by rw [nd_nds l _ hlt, hn]
  have hk := (ho.1 (l.length - 1) (by rw [nds_length]; exact hlt)).2
  rw [hnd] at hk
  simp only [ndOf, List.map_cons, List.map_nil] at r0 r1 r2 hk
  obtain ⟨k0, k1, hf2⟩ : ∃ k0 k1, n.f2 = [k0, k1] := by
    match h : n.f2 with
    | [] => rw [h] at r2; simp at r2
    | [x] => rw [h] at r2; simp at r2
    | [x, y] => exact ⟨x, y, rfl⟩
    | x :: y :: z :: w => rw [h] at r2; simp at r2
  rw [hf2] at r2 hk
  simp only [List.map_cons, List.map_nil, List.cons.injEq, and_true] at r2
  have hk0 := hk k0 (by simp)
  have hk1 := hk k1 (by simp)
  obtain ⟨a1, a2, a3⟩ := (mayB_iff a).1 ha
  obtain ⟨b1, b2, b3⟩ := (mayB_iff b).1 hb
  have hle := TM.plant_le hf hm
  rw [← hl, nds_length] at hle
  simp only [List.map_cons, List.map_nil, nds_length, List.sum_cons, List.sum_nil] at hle
  have hml : mayB l = true := (mayB_iff l).2 ⟨ho.1, hp, by omega⟩
  have up2 : ∀ (f : Int → Int → List Int → Int), TM.up f 0 (nds l) (l.length - 1) = f k p [TM.up f 0 (nds a) (a.length - 1), TM.up f 0 (nds b) (b.length - 1)] := by
    intro f
    rw [TM.up_eq (l.length - 1) (by rw [hnd]; simp only [ndOf]; rw [hf2]; exact hk), hnd]
    simp only [ndOf]
    rw [hf2, r0, r1]
    simp only [List.map_cons, List.map_nil]
    rw [TM.up_of_T ho.1 a1 k0.toNat (a.length - 1) (by rw [nds_length]; omega) (by rw [nds_length]; omega) (by rw [r2.1]; unfold TM.rootT; rw [nds_length]),
      TM.up_of_T ho.1 b1 k1.toNat (b.length - 1) (by rw [nds_length]; omega) (by rw [nds_length]; omega) (by rw [r2.2]; unfold TM.rootT; rw [nds_length])]
  have sa := TM.size_pos a1 (a.length - 1) (by rw [nds_length]; omega)
  have sb := TM.size_pos b1 (b.length - 1) (by rw [nds_length]; omega)
  have da := TM.depth_bd a1 (a.length - 1) (by rw [nds_length]; omega)
  have db := TM.depth_bd b1 (b.length - 1) (by rw [nds_length]; omega)
  have ea : sizeOf a = TM.up TM.sizeF 0 (nds a) (a.length - 1) := by unfold sizeOf TM.size; rw [ha, nds_length]; rfl
  have eb : sizeOf b = TM.up TM.sizeF 0 (nds b) (b.length - 1) := by unfold sizeOf TM.size; rw [hb, nds_length]; rfl
  have fa : depthOf a = TM.up TM.depthF 0 (nds a) (a.length - 1) := by unfold depthOf TM.depth; rw [ha, nds_length]; rfl
  have fb : depthOf b = TM.up TM.depthF 0 (nds b) (b.length - 1) := by unfold depthOf TM.depth; rw [hb, nds_length]; rfl
  have el : sizeOf l = TM.up TM.sizeF 0 (nds l) (l.length - 1) := by unfold sizeOf TM.size; rw [hml, nds_length]; rfl
  have fl : depthOf l = TM.up TM.depthF 0 (nds l) (l.length - 1) := by unfold depthOf TM.depth; rw [hml, nds_length]; rfl
  rw [← ea] at sa
  rw [← eb] at sb
  rw [← fa] at da
  rw [← fb] at db
  have sha : shareS a = TM.share (nds a) := by unfold shareS; rw [ha]; rfl
  have shb : shareS b = TM.share (nds b) := by unfold shareS; rw [hb]; rfl
  refine ⟨hE, hp, r0, r1, k0, k1, hf2, ?_, ?_, ?_, sa, sb, ⟨da.1, by omega⟩, ⟨db.1, by omega⟩⟩
  · have h1 : sameT a b = true ↔ TM.rootT (nds a) = TM.rootT (nds b) := by
      unfold sameT
      simp only [Bool.and_eq_true, decide_eq_true_eq]
      rw [sha, shb, TM.share_iff a1 b1 (by rw [nds_length]; exact a2) (by rw [nds_length]; exact b2)]
      refine ⟨fun h => h.2, fun h => ⟨?_, h⟩⟩
      rw [← sha]
      exact share_pos_iff.2 ha
    rw [h1, ← r2.1, ← r2.2]
    constructor
    · intro e; rw [e]
    · intro e
      have := ho.inj k0.toNat k1.toNat (by rw [nds_length]; omega) (by rw [nds_length]; omega) e
      omega
  · rw [el, up2, ← ea, ← eb]
    simp [TM.sizeF]
  · rw [fl, up2, ← fa, ← fb]
    simp only [TM.depthF, TM.maxL, List.foldr_cons, List.foldr_nil]
    omega
end Go.Proofs.YtlgnogpjmdhflaaDoor
