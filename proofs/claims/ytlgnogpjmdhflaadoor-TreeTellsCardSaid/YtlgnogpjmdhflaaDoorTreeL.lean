/- Plant of tree. -/
import Derived.Test.YtlgnogpjmdhflaaDoorTreeK
namespace Go.Proofs.YtlgnogpjmdhflaaDoor
open Go.RowKit Go.Proofs.YtlgnogpjmdhflaaDoorW.PrintWords Go.Proofs.YtlgnogpjmdhflaaDoorW.PrintLast Go.Proofs.YtlgnogpjmdhflaaDoorW.PrintMore Go.Proofs.YtlgnogpjmdhflaaDoor.PRef Go.Maps
set_option linter.unusedVariables false
set_option linter.unusedSimpArgs false

theorem kidsT_spec : ∀ (ts : List (List TM.Nd)) (out : List TM.Nd), (∀ t ∈ ts, TM.Mays t ∧ 0 < t.length) → TM.Ok out →
    TM.Ok (TM.kidsT ts out).1 ∧ out.length ≤ (TM.kidsT ts out).1.length ∧ (TM.kidsT ts out).2.length = ts.length ∧ (∀ k ∈ (TM.kidsT ts out).2, 0 ≤ k ∧ k < ((TM.kidsT ts out).1.length : Int)) ∧ (TM.kidsT ts out).1.length ≤ out.length + (ts.map List.length).sum := by
  intro ts
  induction ts with
  | nil => intro out _ ho; exact ⟨ho, Nat.le_refl _, rfl, by simp [TM.kidsT], by simp [TM.kidsT]⟩
  | cons t ts ih =>
    intro out h ho
    obtain ⟨hm, h0⟩ := h t (by simp)
    obtain ⟨s1, s2, s3, s4, _⟩ := TM.shr_spec hm t.length (t.length - 1) out (by omega) (by omega) ho
    have s5 := TM.shr_len hm t.length (t.length - 1) out (by omega) (by omega) ho
    obtain ⟨i1, i2, i3, i4, i5⟩ := ih (TM.shr t t.length (t.length - 1) out).1 (fun t' ht' => h t' (by simp [ht'])) s1
    refine ⟨i1, Nat.le_trans s2.length_le i2, by simp [TM.kidsT, i3], fun k hk => ?_, ?_⟩
    · simp only [TM.kidsT, List.mem_cons] at hk ⊢
      rcases hk with rfl | hk
      · exact ⟨by omega, by omega⟩
      · exact i4 k hk
    · simp only [TM.kidsT, List.map_cons, List.sum_cons]
      omega

/-- The state between two trees. -/
structure Pj (base Bs Bm B9 : Nat) (k p : Int) (r : List TM.Nd × List Int) (kv v' : Value) (out' : List S46) (w wr : World) : Prop where
  sh : Sh base Bs Bm (fun q => q ≠ B9 ∧ some q ≠ kv.ownBlock) v' out' wr
  box : wr.heap[B9]? = some (.cells #[.int .i64 k, .int .i64 p, kv] 46 (0, 0))
  kids : (Kd.int .i64).R 3 wr base (fun _ => True) kv r.2
  r1 : nds out' = r.1
  b9 : base ≤ B9
  bw : Below base w wr
  bs : base ≤ wr.heap.size
section
variable {base Bs Bm B9 : Nat} {k p : Int} {r : List TM.Nd × List Int} {kv v' : Value} {out' : List S46} {w wr : World}
theorem Pj.step {wr' : World} (h : Pj base Bs Bm B9 k p r kv v' out' w wr) (hb : Below wr.heap.size wr wr') : Pj base Bs Bm B9 k p r kv v' out' w wr' :=
  ⟨h.sh.step hb, (hb.block _ (blk_lt h.box)).trans h.box, Kd.R_below h.kids hb, h.r1, h.b9, h.bw.trans (hb.mono h.bs), Nat.le_trans h.bs hb.size⟩
theorem Pj.c0 (h : Pj base Bs Bm B9 k p r kv v' out' w wr) : wr.cell? ⟨B9, 0, none⟩ = some (.int .i64 k) := by rw [cell_of_row _ B9 0 _ _ _ h.box]; rfl
theorem Pj.c1 (h : Pj base Bs Bm B9 k p r kv v' out' w wr) : wr.cell? ⟨B9, 1, none⟩ = some (.int .i64 p) := by rw [cell_of_row _ B9 1 _ _ _ h.box]; rfl
theorem Pj.kc (h : Pj base Bs Bm B9 k p r kv v' out' w wr) : wr.cell? ⟨B9, 2, none⟩ = some kv := by rw [cell_of_row _ B9 2 _ _ _ h.box]; rfl
theorem Pj.kc2 {w4 : World} (h : Pj base Bs Bm B9 k p r kv v' out' w wr) (hg : wr.grownBy w4 kv.ownBlock) : w4.cell? ⟨B9, 2, none⟩ = some kv := by
  have hb4 := (hg.block B9 (blk_lt h.box) (Kd.R_ne h.kids h.box (by decide))).trans h.box
  rw [cell_of_row _ B9 2 _ _ _ hb4]; rfl
theorem Pj.kf2 {w4 : World} (h : Pj base Bs Bm B9 k p r kv v' out' w wr) (hg : wr.grownBy w4 kv.ownBlock) : w4.frozen? ⟨B9, 2, none⟩ = false := by
  have hb4 := (hg.block B9 (blk_lt h.box) (Kd.R_ne h.kids h.box (by decide))).trans h.box
  simp [World.frozen?, hb4]
theorem Pj.n9s (h : Pj base Bs Bm B9 k p r kv v' out' w wr) : B9 ≠ Bs := by
  rintro rfl
  have := h.sh.blk
  rw [h.box] at this
  injection this with this
  injection this with _ this
  exact absurd this (by decide)
theorem Pj.n9m (h : Pj base Bs Bm B9 k p r kv v' out' w wr) : B9 ≠ Bm := fun e => ownsMap_ne h.sh.map h.box e.symm
theorem Pj.nkm (h : Pj base Bs Bm B9 k p r kv v' out' w wr) : some Bm ≠ kv.ownBlock := fun e => by
  obtain ⟨cells, hc⟩ := own_typed (Kd.own_of_R h.kids) Bm e.symm
  exact ownsMap_ne h.sh.map hc rfl
theorem Pj.called (h : Pj base Bs Bm B9 k p r kv v' out' w wr) {l : List S46} {cd : Nat} {r2 : List TM.Nd × Nat} {e : Ending} {W1 w2 : World} (hb1 : Below wr.heap.size wr W1) (hz : W1.heap.size = wr.heap.size + 1)
    (hp : WalkPost base Bs Bm wr.heap.size cd (fun q => (q ≠ B9 ∧ some q ≠ kv.ownBlock) ∧ q ≠ wr.heap.size) l v' r2 W1 e w2) :
    ∃ v2 out2, e = .returned (.int .i64 (r2.2 : Int)) ∧ Pj base Bs Bm B9 k p (r2.1, r.2) kv v2 out2 w w2 := by
  obtain ⟨v2, out2, dones2, he, hn, hws, hm, hat⟩ := hp
  have h1 := h.step hb1
  have hlt9 := blk_lt h.box
  refine ⟨v2, out2, he, ⟨hws.sh.mono (fun q hq => hq.1), ?_, ?_, hn, h.b9, ?_, Nat.le_trans h1.bs hm.size⟩⟩
  · refine (hm.block B9 (by omega) ?_).trans h1.box
    rintro ((e | e | e) | e)
    · exact h.n9s e
    · exact h.n9m e
    · exact (h.sh.row.1 B9 e.symm).1 rfl
    · omega
  · have h0 : (Kd.int .i64).R 3 W1 base (fun q => kv.ownBlock = some q) kv r.2 := Kd.R_of_own (Kd.own_of_R h1.kids) (fun q hq => hq)
    refine Kd.R_mono (Kd.R_step h0 (fun q ho hlt => hm.block q hlt ?_)) (fun _ _ => trivial)
    rintro ((e | e | e) | e)
    · exact Kd.R_ne h.kids h.sh.blk (by decide) (by rw [← e]; exact ho.symm)
    · exact h.nkm (by rw [← e]; exact ho.symm)
    · exact (h.sh.row.1 q e.symm).2 ho.symm
    · have := Kd.R_lt h.kids q ho; omega
  · refine hm.below h1.bw h1.bs ?_
    rintro i ((e | e | e) | e)
    · have := h.sh.hs; omega
    · have := h.sh.hm; omega
    · exact Kd.R_base h.sh.row i e.symm
    · have := h.bs; omega
theorem Pj.grown {r1 : List TM.Nd} {ks ks1 : List Int} (h : Pj base Bs Bm B9 k p (r1, ks) kv v' out' w wr) {v1 : Value} {w4 : World} (hO : (Kd.int .i64).R 3 w4 base (fun _ => True) v1 ks1) (hg : wr.grownBy w4 kv.ownBlock) (hat : v1.ownBlock = kv.ownBlock ∨ ∃ b, v1.ownBlock = some b ∧ wr.heap.size ≤ b) :
    Pj base Bs Bm B9 k p (r1, ks1) v1 v' out' w (w4.setCell ⟨B9, 2, none⟩ v1) := by
  have hne := Kd.R_ne h.kids h.box (by decide)
  have hb4 : w4.heap[B9]? = some (.cells #[.int .i64 k, .int .i64 p, kv] 46 (0, 0)) := (hg.block B9 (blk_lt h.box) hne).trans h.box
  have hm : Moved (fun i => i = B9 ∨ some i = kv.ownBlock) wr (w4.setCell ⟨B9, 2, none⟩ v1) := (Moved.of_grown hg fun i hi => .inr hi.symm).setCell (p := ⟨B9, 2, none⟩) (.inl rfl) _
  refine ⟨(h.sh.bound.moved hm (fun q hq => ?_) ?_ ?_).mono (fun q hq => ⟨hq.1.1, fun e => ?_⟩), ?_, Kd.R_set hO hb4 (by decide) 2 v1, h.r1, h.b9, hm.below h.bw h.bs ?_, Nat.le_trans h.bs hm.size⟩
  · rintro (e | e)
    · exact hq.1.1 e
    · exact hq.1.2 e
  · rintro (e | e)
    · exact h.n9s e.symm
    · exact Kd.R_ne h.kids h.sh.blk (by decide) e
  · rintro (e | e)
    · exact h.n9m e.symm
    · exact h.nkm e
  · rcases hat with h1 | ⟨b, h1, h2⟩
    · rw [h1] at e; exact hq.1.2 e
    · rw [h1] at e; injection e with e; have := hq.2; omega
  · simp [World.setCell, Array.getElem?_modify, hb4]
  · rintro i (e | e)
    · have := h.b9; omega
    · exact Kd.R_base h.kids i e.symm
end
end Go.Proofs.YtlgnogpjmdhflaaDoor
