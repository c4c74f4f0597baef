/- Spans: put; Place, Has. -/
import Derived.Test.YteachgaabfaanaaSpA
import Derived.Deep.Cut
import Derived.Deep.CutBlock
import Derived.Deep.DeepCutAuto
namespace Go.Proofs.Yteachgaabfaanaa
open Go.RowKit Go.Proofs.YteachgaabfaanaaW.PrintWords Go.Proofs.YteachgaabfaanaaW.PrintLast Go.Proofs.YteachgaabfaanaaW.PrintMore Go.Proofs.Yteachgaabfaanaa.PRef
set_option linter.unusedVariables false
set_option linter.unusedSimpArgs false
attribute [local go_sem] max2_int min2_int max_two min_two

/-! ### The cells of a list of spans -/
def cellsOf (l : List S40) : List Value := l.flatMap fun s => [.int .i64 s.f0, .int .i64 s.f1]
theorem cellsOf_length (l : List S40) : (cellsOf l).length = l.length * 2 := by
  induction l with
  | nil => rfl
  | cons s l ih =>
    have : (cellsOf (s :: l)).length = 2 + (cellsOf l).length := by simp [cellsOf]; omega
    rw [this, ih, List.length_cons]
    omega
theorem cellsOf_append (a b : List S40) : cellsOf (a ++ b) = cellsOf a ++ cellsOf b := by simp [cellsOf]
theorem cellsOf_at : ∀ (l : List S40) (j : Nat) (s : S40), l[j]? = some s → ((cellsOf l).drop (j * 2)).take 2 = [.int .i64 s.f0, .int .i64 s.f1] := by
  intro l
  induction l with
  | nil => intro j s h; simp at h
  | cons x l ih =>
    intro j s h
    cases j with
    | zero =>
      simp only [List.getElem?_cons_zero, Option.some.injEq] at h
      subst h
      simp [cellsOf]
    | succ j =>
      have := ih j s (by simpa using h)
      rw [← this]
      simp only [cellsOf, List.flatMap_cons, Nat.succ_mul]
      rfl
theorem cells_reps {w : World} {base : Nat} {ok : Nat → Prop} (l : List S40) : Reps (k40.M w base ok) 2 l (cellsOf l) :=
  ⟨by rw [cellsOf_length], fun j p hj => by rw [cellsOf_at l j p hj]; exact k40_mkM w base ok p⟩
theorem reps_cells {w : World} {base : Nat} {ok : Nat → Prop} {l : List S40} {inner : List Value} (h : Reps (k40.M w base ok) 2 l inner) : inner = cellsOf l := by
  apply List.ext_getElem?
  intro i
  have hl := h.1
  by_cases hi : i < l.length * 2
  · have hj : i / 2 < l.length := by omega
    have h1 := k40_openM (h.2 (i / 2) _ (List.getElem?_eq_getElem hj))
    have h2 := cellsOf_at l (i / 2) _ (List.getElem?_eq_getElem hj)
    rw [← h1] at h2
    have e : ∀ (L : List Value), ((L.drop (i / 2 * 2)).take 2)[i % 2]? = L[i]? := by
      intro L
      rw [List.getElem?_take, if_pos (by omega), List.getElem?_drop]
      congr 1
      omega
    rw [← e inner, ← e (cellsOf l), h2]
  · rw [List.getElem?_eq_none (by omega), List.getElem?_eq_none (by rw [cellsOf_length]; omega)]
theorem R_own40 {w : World} {base : Nat} {ok : Nat → Prop} {v : Value} {l : List S40} (h : k40.R 40 w base ok v l) : w.ownsRow base 40 2 v l.length (cellsOf l) := by
  obtain ⟨_, inner, ho, hr⟩ := h
  have := reps_cells hr
  subst this
  exact ho
theorem R_of40 {w : World} {base : Nat} {ok : Nat → Prop} {v : Value} {l : List S40} (h : w.ownsRow base 40 2 v l.length (cellsOf l)) (hok : ∀ k, v.ownBlock = some k → ok k) : k40.R 40 w base ok v l := ⟨hok, cellsOf l, h, cells_reps l⟩
/-- The last one's end is another one. -/
def lastHigh (l : List S40) (x : Int) : List S40 := match l.getLast? with
  | none => l
  | some p => l.dropLast ++ [⟨p.f0, x⟩]
theorem cells_set : ∀ (l : List S40) (x : Int), 0 < l.length → (cellsOf l).set ((l.length - 1) * 2 + 1) (.int .i64 x) = cellsOf (lastHigh l x) ∧ (lastHigh l x).length = l.length := by
  intro l x h
  have hne : l ≠ [] := by rintro rfl; simp at h
  have e : l = l.dropLast ++ [l.getLast hne] := (List.dropLast_concat_getLast hne).symm
  have hg : l.getLast? = some (l.getLast hne) := List.getLast?_eq_some_getLast hne
  unfold lastHigh
  rw [hg]
  simp only
  have hd : l.dropLast.length = l.length - 1 := by simp
  refine ⟨?_, by simp; omega⟩
  conv => lhs; arg 1; rw [e]
  rw [cellsOf_append, cellsOf_append, List.set_append_right _ _ (by rw [cellsOf_length, hd]; omega), cellsOf_length, hd]
  have : (l.length - 1) * 2 + 1 - (l.length - 1) * 2 = 1 := by omega
  rw [this]
  rfl
/-- What put leaves. -/
def putS (l : List S40) (s : S40) : List S40 := unsps (SM.putM (sps l) (sp s))
theorem putS_nil (s : S40) : putS [] s = [s] := rfl
theorem sps_getLast (l : List S40) : (sps l).getLast? = l.getLast?.map sp := by simp [sps, List.getLast?_map]
theorem putS_join {l : List S40} {s p : S40} (h : l.getLast? = some p) (hc : s.f0 ≤ p.f1 + 1) : putS l s = lastHigh l (max p.f1 s.f1) := by
  unfold putS SM.putM lastHigh
  rw [sps_getLast, h]
  show unsps (if (sp s).1 ≤ (sp p).2 + 1 then (sps l).dropLast ++ [(p.f0, max p.f1 s.f1)] else sps l ++ [sp s]) = l.dropLast ++ [⟨p.f0, max p.f1 s.f1⟩]
  rw [if_pos (show (sp s).1 ≤ (sp p).2 + 1 from hc)]
  unfold unsps
  rw [List.map_append]
  congr 1
  have : unsps (sps l).dropLast = l.dropLast := by
    unfold sps
    rw [← List.map_dropLast]
    exact unsps_sps _
  exact this
theorem putS_new {l : List S40} {s p : S40} (h : l.getLast? = some p) (hc : ¬ s.f0 ≤ p.f1 + 1) : putS l s = l ++ [s] := by
  unfold putS SM.putM
  rw [sps_getLast, h]
  show unsps (if (sp s).1 ≤ (sp p).2 + 1 then (sps l).dropLast ++ [(p.f0, max p.f1 s.f1)] else sps l ++ [sp s]) = l ++ [s]
  rw [if_neg (show ¬ (sp s).1 ≤ (sp p).2 + 1 from hc)]
  unfold unsps
  rw [List.map_append]
  congr 1
  exact unsps_sps _
theorem last_at {l : List S40} {p : S40} (h : l.getLast? = some p) : 0 < l.length ∧ rd_T40 l ((l.length - 1 : Nat) : Int) = p := by
  have hne : l ≠ [] := by rintro rfl; simp at h
  have hl : 0 < l.length := List.length_pos_iff.2 hne
  refine ⟨hl, ?_⟩
  rw [rd_at l (l.length - 1) (by omega)]
  rw [List.getLast?_eq_some_getLast hne] at h
  injection h with h
  rw [← h, List.getLast_eq_getElem]
theorem sps_putS (l : List S40) (s : S40) : sps (putS l s) = SM.putM (sps l) (sp s) := sps_unsps _

def PutPost (base : Nat) (ok : Nat → Prop) (v : Value) (l : List S40) (w : World) (e : Ending) (w' : World) : Prop :=
  ∃ v', e = .returned v' ∧ k40.R 40 w' base ok v' l ∧ w.grownBy w' v.ownBlock ∧ (v'.ownBlock = v.ownBlock ∨ ∃ b, v'.ownBlock = some b ∧ w.heap.size ≤ b)
theorem grown_after {w w1 w2 : World} {row : Option Nat} (hb : Below w.heap.size w w1) (hg : w1.grownBy w2 row) : w.grownBy w2 row :=
  ⟨hg.os.trans hb.os, hg.tape.trans hb.tape, hg.output.trans hb.output, Nat.le_trans hb.size hg.size, fun k hk hne => (hg.block k (Nat.lt_of_lt_of_le hk hb.size) hne).trans (hb.block k hk)⟩
theorem info40 : (Try.prog.info? 40).map (fun i => (i.zero, i.size, i.bytes)) = some (some (.agg #[(.int .i64 0), (.int .i64 0)]), 2, 16) := by kernel_rfl

theorem skip_step {P : Program} {ops : Array Oper} {o : Oper} {a : Act} {Q : Exit → Act → World → Prop} {Kc : Act → World → Prop} {W w1 : World} (hw : Region.wanted o (yielded ops a.tmps) = true) (hrun : (execOp a.eval o).run P W = .ok .skip w1) (h : Kc (a.put o.dst undef) w1) :
    if Region.wanted o (yielded ops a.tmps) = true then Oper.wp P o a W Kc Q else Kc (a.put o.dst undef) W := by
  rw [if_pos hw]
  unfold Oper.wp
  rw [hrun]
  exact h
theorem add0 (g k : Nat) : Addr.add ⟨g, 0, none⟩ k = ⟨g, k, none⟩ := by
  unfold Addr.add
  split
  · next h => subst h; rfl
  · simp
theorem blk_lt {w : World} {b : Nat} {o : Obj} (h : w.heap[b]? = some o) : b < w.heap.size := (Array.getElem?_eq_some_iff.1 h).1
theorem cell_w {w w' : World} {p : Addr} {v : Value} (hb : Below w.heap.size w w') (h : w.cell? p = some v) : w'.cell? p = some v := (hb.cell (World.block_lt_of_cell? w _ h)).trans h

set_option maxHeartbeats 4000000 in
set_option maxRecDepth 100000 in
/-- put onto a list that is empty. -/
theorem put_nil (base : Nat) (ok : Nat → Prop) (v : Value) (s : S40) (w : World) (HO : k40.R 40 w base ok v []) (hfresh : ∀ k, w.heap.size ≤ k → ok k) (hbase : base ≤ w.heap.size) :
    Calls Try.prog 27 #[v, .agg #[.int .i64 s.f0, .int .i64 s.f1]] w (PutPost base ok v (putS [] s) w) := by
  obtain ⟨A, c, rfl, hc, _⟩ := Kd.R_reads HO
  have HF := Lib.hid hfresh
  have hba := below_alloc (Below.refl w.heap.size w) (.cells #[.int .i64 s.f0, .int .i64 s.f1] 40)
  have HBX := Lib.hid (heap_alloc_new w (.cells #[.int .i64 s.f0, .int .i64 s.f1] 40))
  have HR := Lib.hid (Kd.R_below HO hba)
  have HBA := Lib.hid hba
  clear HO hfresh hba
  go_enter Try.func27, Try.ntmps27
  go_wp2_with fail
  generalize w.alloc (.cells #[.int .i64 s.f0, .int .i64 s.f1] 40) = w1 at HBX HR HBA ⊢
  have hdr := below_drew (Below.refl w1.heap.size w1)
  replace HBX := Lib.hid ((hdr.block _ (blk_lt HBX.out)).trans HBX.out)
  replace HR := Lib.hid (Kd.R_below HR.out hdr)
  replace HBA := Lib.hid (HBA.out.trans (hdr.mono HBA.out.size))
  clear hdr
  refine start_ (n := 14) (S := fun w' => True) (ds := []) #[false, false, false, false, false, false, false, false, false, false, false, false, false, false] (by kernel_rfl) rfl rfl trivial (fun hHeld => ?_)
  generalize w1.drew = w2 at HBX HR HBA hHeld ⊢
  refine pure_ (i := 0) (N := some 8) (v := ?_) (a' := ?_) #[true, false, false, false, false, false, false, false, false, false, false, false, false, false] rfl rfl (by kernel_rfl) (fun _ _ _ h => h) (Or.inl ⟨by rfl, ?_⟩) ?_ ?_
  rotate_left
  · intro w'
    go_simp
    with_reducible rfl
  rotate_left
  · simp only [Act.put, List.setIfInBounds_toArray, List.set_cons_zero, List.set_cons_succ, i64_w, i32_w]
    rfl
  refine pure_ (i := 1) (N := some 9) (v := ?_) (a' := ?_) #[true, true, false, false, false, false, false, false, false, false, false, false, false, false] rfl rfl (by kernel_rfl) (fun _ _ _ h => h) (Or.inl ⟨by rfl, ?_⟩) ?_ ?_
  rotate_left
  · intro w'
    go_simp
    with_reducible rfl
  rotate_left
  · simp only [Act.put, List.setIfInBounds_toArray, List.set_cons_zero, List.set_cons_succ, i64_w, i32_w]
    rfl
  refine pure_ (i := 2) (N := some 10) (v := ?_) (a' := ?_) #[true, true, true, false, false, false, false, false, false, false, false, false, false, false] rfl rfl (by kernel_rfl) (fun _ _ _ h => h) (Or.inl ⟨by rfl, ?_⟩) ?_ ?_
  rotate_left
  · intro w'
    go_simp
    with_reducible rfl
  rotate_left
  · simp only [Act.put, List.setIfInBounds_toArray, List.set_cons_zero, List.set_cons_succ, i64_w, i32_w]
    rfl
  refine pure_ (i := 3) (N := some 11) (v := undef) (a' := ?_) #[true, true, true, true, false, false, false, false, false, false, false, false, false, false] rfl rfl (by kernel_rfl) (fun _ _ _ h => h) (Or.inr ⟨by rfl, rfl⟩) ?_ ?_
  rotate_left
  · simp only [Act.put, List.setIfInBounds_toArray, List.set_cons_zero, List.set_cons_succ, i64_w, i32_w]
    rfl
  refine pure_ (i := 4) (N := some 12) (v := undef) (a' := ?_) #[true, true, true, true, true, false, false, false, false, false, false, false, false, false] rfl rfl (by kernel_rfl) (fun _ _ _ h => h) (Or.inr ⟨by rfl, rfl⟩) ?_ ?_
  rotate_left
  · simp only [Act.put, List.setIfInBounds_toArray, List.set_cons_zero, List.set_cons_succ, i64_w, i32_w]
    rfl
  refine pure_ (i := 5) (N := some 13) (v := undef) (a' := ?_) #[true, true, true, true, true, true, false, false, false, false, false, false, false, false] rfl rfl (by kernel_rfl) (fun _ _ _ h => h) (Or.inr ⟨by rfl, rfl⟩) ?_ ?_
  rotate_left
  · simp only [Act.put, List.setIfInBounds_toArray, List.set_cons_zero, List.set_cons_succ, i64_w, i32_w]
    rfl
  refine pure_ (i := 6) (N := some 14) (v := undef) (a' := ?_) #[true, true, true, true, true, true, true, false, false, false, false, false, false, false] rfl rfl (by kernel_rfl) (fun _ _ _ h => h) (Or.inr ⟨by rfl, rfl⟩) ?_ ?_
  rotate_left
  · simp only [Act.put, List.setIfInBounds_toArray, List.set_cons_zero, List.set_cons_succ, i64_w, i32_w]
    rfl
  refine pure_ (i := 7) (N := some 15) (v := undef) (a' := ?_) #[true, true, true, true, true, true, true, true, false, false, false, false, false, false] rfl rfl (by kernel_rfl) (fun _ _ _ h => h) (Or.inr ⟨by rfl, rfl⟩) ?_ ?_
  rotate_left
  · simp only [Act.put, List.setIfInBounds_toArray, List.set_cons_zero, List.set_cons_succ, i64_w, i32_w]
    rfl
  refine pure_ (i := 8) (N := some 16) (v := undef) (a' := ?_) #[true, true, true, true, true, true, true, true, true, false, false, false, false, false] rfl rfl (by kernel_rfl) (fun _ _ _ h => h) (Or.inr ⟨by rfl, rfl⟩) ?_ ?_
  rotate_left
  · simp only [Act.put, List.setIfInBounds_toArray, List.set_cons_zero, List.set_cons_succ, i64_w, i32_w]
    rfl
  refine pure_ (i := 9) (N := some 17) (v := undef) (a' := ?_) #[true, true, true, true, true, true, true, true, true, true, false, false, false, false] rfl rfl (by kernel_rfl) (fun _ _ _ h => h) (Or.inr ⟨by rfl, rfl⟩) ?_ ?_
  rotate_left
  · simp only [Act.put, List.setIfInBounds_toArray, List.set_cons_zero, List.set_cons_succ, i64_w, i32_w]
    rfl
  refine pure_ (i := 10) (N := some 18) (v := undef) (a' := ?_) #[true, true, true, true, true, true, true, true, true, true, true, false, false, false] rfl rfl (by kernel_rfl) (fun _ _ _ h => h) (Or.inr ⟨by rfl, rfl⟩) ?_ ?_
  rotate_left
  · simp only [Act.put, List.setIfInBounds_toArray, List.set_cons_zero, List.set_cons_succ, i64_w, i32_w]
    rfl
  refine pure_ (i := 11) (N := some 19) (v := undef) (a' := ?_) #[true, true, true, true, true, true, true, true, true, true, true, true, false, false] rfl rfl (by kernel_rfl) (fun _ _ _ h => h) (Or.inr ⟨by rfl, rfl⟩) ?_ ?_
  rotate_left
  · simp only [Act.put, List.setIfInBounds_toArray, List.set_cons_zero, List.set_cons_succ, i64_w, i32_w]
    rfl
  refine pure_ (i := 12) (N := some 20) (v := undef) (a' := ?_) #[true, true, true, true, true, true, true, true, true, true, true, true, true, false] rfl rfl (by kernel_rfl) (fun _ _ _ h => h) (Or.inr ⟨by rfl, rfl⟩) ?_ ?_
  rotate_left
  · simp only [Act.put, List.setIfInBounds_toArray, List.set_cons_zero, List.set_cons_succ, i64_w, i32_w]
    rfl
  refine pure_ (i := 13) (N := some 21) (v := ?_) (a' := ?_) #[true, true, true, true, true, true, true, true, true, true, true, true, true, true] rfl rfl (by kernel_rfl) (fun _ _ _ h => h) (Or.inl ⟨by rfl, ?_⟩) ?_ ?_
  rotate_left
  · intro w'
    go_simp
    with_reducible rfl
  rotate_left
  · simp only [Act.put, List.setIfInBounds_toArray, List.set_cons_zero, List.set_cons_succ, i64_w, i32_w]
    rfl
  refine done_ (by kernel_rfl) ?_
  clear hHeld
  have hb0 : w2.cell? ⟨w.heap.size, 0, none⟩ = some (.int .i64 s.f0) := by rw [cell_of_row _ w.heap.size 0 _ _ _ HBX.out]; rfl
  have hb1 : w2.cell? ⟨w.heap.size, 1, none⟩ = some (.int .i64 s.f1) := by rw [cell_of_row _ w.heap.size 1 _ _ _ HBX.out]; rfl
  have hs2 := HBA.out.size
  have hfr : ∀ k, w2.heap.size ≤ k → ok k := fun k hk => HF.out k (Nat.le_trans hs2 hk)
  have HFR := Lib.hid hfr
  clear hfr
  have hbs : base ≤ w2.heap.size := Nat.le_trans hbase hs2
  go_wp2_with (at_builtin; refine Kd.R_append k40 (w0 := w2) base rfl (.tmp 37) (.tmp 39) 22 40 (.agg #[(.int .i64 0), (.int .i64 0)]) 16 rfl Try.underlying22 info40 rfl (by decide) (by omega) _ [] s [.int .i64 s.f0, .int .i64 s.f1] ok (fun _ => False) rfl rfl (k40_mkM _ _ _ s) (fun _ hk => hk.elim) HFR.out HR.out (Below.refl _ _) hbs (by simp) ?_; intro v1 w3 hO1 hB1 hg1 hat1)
  go_ret
  refine ⟨_, rfl, hO1, grown_after HBA.out hg1, ?_⟩
  rcases hat1 with e | ⟨b, e, hb⟩
  · exact .inl e
  · exact .inr ⟨b, e, Nat.le_trans hs2 hb⟩

theorem put_end {base : Nat} {ok : Nat → Prop} {l : List S40} {s p : S40} {w w3 : World} {g cap : Nat} {x : Int} (hl0 : 0 < l.length) (hx : x = max p.f1 s.f1) (hj : putS l s = lastHigh l (max p.f1 s.f1)) (HR : k40.R 40 w3 base ok (.slice (some ⟨g, 0, none⟩) l.length cap) l) (HBA : Below w.heap.size w w3) :
    PutPost base ok (.slice (some ⟨g, 0, none⟩) l.length cap) (putS l s) w (.returned (.slice (some ⟨g, 0, none⟩) l.length cap)) (w3.setCell ⟨g, (l.length - 1) * 2 + 1, none⟩ (.int .i64 x)) := by
  subst hx
  have hst := (R_own40 HR).stored ((l.length - 1) * 2 + 1) (.int .i64 (max p.f1 s.f1))
  have hcs := cells_set l (max p.f1 s.f1) hl0
  rw [hcs.1] at hst
  rw [hj]
  refine ⟨_, rfl, ?_, grown_after HBA hst.2, .inl rfl⟩
  exact R_of40 (by rw [hcs.2]; exact hst.1) (fun k hk => HR.1 k hk)

set_option maxHeartbeats 4000000 in
set_option maxRecDepth 100000 in
/-- put onto a list that has a last span. -/
theorem put_some (base : Nat) (ok : Nat → Prop) (v : Value) (l : List S40) (s p : S40) (w : World) (hp : l.getLast? = some p) (hpb : -4611686018427387904 ≤ p.f1 ∧ p.f1 ≤ 4611686018427387903) (hlen : l.length ≤ 1000000000) (HO : k40.R 40 w base ok v l) (hfresh : ∀ k, w.heap.size ≤ k → ok k) (hbase : base ≤ w.heap.size) :
    Calls Try.prog 27 #[v, .agg #[.int .i64 s.f0, .int .i64 s.f1]] w (PutPost base ok v (putS l s) w) := by
  obtain ⟨hl0, hrd⟩ := last_at hp
  obtain ⟨g, cap, rfl, hgb, hgl, _⟩ := Kd.R_form HO hl0
  obtain ⟨_, _, hC⟩ := Kd.R_reads' HO
  obtain ⟨ad, had, hc0, hc1⟩ := at_T40 hC ((l.length - 1 : Nat) : Int) (by omega) (by omega)
  injection had with had
  subst had
  rw [hrd] at hc0 hc1
  simp only [Int.toNat_natCast, add0] at hc0 hc1
  have hfz := (R_own40 HO).frozenAt ((l.length - 1) * 2 + 1)
  have HF := Lib.hid hfresh
  have hba := below_alloc (Below.refl w.heap.size w) (.cells #[.int .i64 s.f0, .int .i64 s.f1] 40)
  have HBX := Lib.hid (heap_alloc_new w (.cells #[.int .i64 s.f0, .int .i64 s.f1] 40))
  have HR := Lib.hid (Kd.R_below HO hba)
  have HBA := Lib.hid hba
  have HP := Lib.hid hp
  replace hc0 := cell_w hba hc0
  replace hc1 := cell_w hba hc1
  clear HO hfresh hba hC hrd hp
  have hg0 : decide ((0 : Int) < (l.length : Int)) = true := decide_eq_true (by omega)
  have hl1 : ((l.length : Int) - 1).toNat = l.length - 1 := by omega
  have hq0 : (0 : Int) ≤ (l.length : Int) - 1 := by omega
  have hq1 : (l.length : Int) - 1 < (l.length : Int) := by omega
  have hq2 : (1 : Int) ≤ (l.length : Int) := by omega
  have hw1 : wrap64 (p.f1 + 1) = p.f1 + 1 := by unfold wrap64; omega
  have hw2 : wrap64 ((l.length : Int) - 1) = (l.length : Int) - 1 := by unfold wrap64; omega
  by_cases hle : s.f0 ≤ p.f1 + 1
  · have hg1 : decide (s.f0 ≤ p.f1 + 1) = true := decide_eq_true hle
    have HJ := Lib.hid (putS_join HP.out hle)
    go_enter Try.func27, Try.ntmps27
    go_wp2_with fail
    generalize w.alloc (.cells #[.int .i64 s.f0, .int .i64 s.f1] 40) = w1 at HBX HR HBA hc0 hc1 ⊢
    have hdr := below_drew (Below.refl w1.heap.size w1)
    replace HBX := Lib.hid ((hdr.block _ (blk_lt HBX.out)).trans HBX.out)
    replace HR := Lib.hid (Kd.R_below HR.out hdr)
    replace HBA := Lib.hid (HBA.out.trans (hdr.mono HBA.out.size))
    replace hc0 := cell_w hdr hc0
    replace hc1 := cell_w hdr hc1
    have hb0 : w1.drew.cell? ⟨w.heap.size, 0, none⟩ = some (.int .i64 s.f0) := by rw [cell_of_row _ w.heap.size 0 _ _ _ HBX.out]; rfl
    clear hdr
    refine start_ (n := 14) (S := fun w' => w'.cell? ⟨w.heap.size, 0, none⟩ = some (.int .i64 s.f0) ∧ w'.cell? ⟨g, (l.length - 1) * 2 + 1, none⟩ = some (.int .i64 p.f1)) (ds := []) #[false, false, false, false, false, false, false, false, false, false, false, false, false, false] (by kernel_rfl) rfl rfl ⟨hb0, hc1⟩ (fun hHeld => ?_)
    generalize w1.drew = w2 at HBX HR HBA hb0 hc0 hc1 hHeld ⊢
    refine pure_ (i := 0) (N := some 8) (v := ?_) (a' := ?_) #[true, false, false, false, false, false, false, false, false, false, false, false, false, false] rfl rfl (by kernel_rfl) (fun _ _ _ h => h) (Or.inl ⟨by rfl, ?_⟩) ?_ ?_
    rotate_left
    · intro w'
      go_simp
      with_reducible rfl
    rotate_left
    · simp only [Act.put, List.setIfInBounds_toArray, List.set_cons_zero, List.set_cons_succ, i64_w, i32_w]
      rfl
    refine pure_ (i := 1) (N := some 9) (v := ?_) (a' := ?_) #[true, true, false, false, false, false, false, false, false, false, false, false, false, false] rfl rfl (by kernel_rfl) (fun _ _ _ h => h) (Or.inl ⟨by rfl, ?_⟩) ?_ ?_
    rotate_left
    · intro w'
      go_simp
      with_reducible rfl
    rotate_left
    · simp only [Act.put, List.setIfInBounds_toArray, List.set_cons_zero, List.set_cons_succ, i64_w, i32_w]
      rfl
    refine pure_ (i := 2) (N := some 10) (v := ?_) (a' := ?_) #[true, true, true, false, false, false, false, false, false, false, false, false, false, false] rfl rfl (by kernel_rfl) (fun _ _ _ h => h) (Or.inl ⟨by rfl, ?_⟩) ?_ ?_
    rotate_left
    · intro w'
      go_simp
      with_reducible rfl
    rotate_left
    · simp only [Act.put, List.setIfInBounds_toArray, List.set_cons_zero, List.set_cons_succ, i64_w, i32_w]
      rfl
    refine pure_ (i := 3) (N := some 11) (v := ?_) (a' := ?_) #[true, true, true, true, false, false, false, false, false, false, false, false, false, false] rfl rfl (by kernel_rfl) (fun _ _ _ h => h) (Or.inl ⟨by rfl, ?_⟩) ?_ ?_
    rotate_left
    · intro w'
      go_simp
      with_reducible rfl
    rotate_left
    · simp only [Act.put, List.setIfInBounds_toArray, List.set_cons_zero, List.set_cons_succ, i64_w, i32_w]
      rfl
    refine take_ (i := 4) (N := some 12) (v := ?_) (a' := ?_) #[true, true, true, true, true, false, false, false, false, false, false, false, false, false] rfl rfl (by kernel_rfl) (fun _ _ _ h => h) (Or.inl ⟨by rfl, ?_⟩) hHeld ?_ ?_
    rotate_left
    · rintro w' ⟨s0, s1⟩
      go_simp
      with_reducible rfl
    rotate_left
    · simp only [Act.put, List.setIfInBounds_toArray, List.set_cons_zero, List.set_cons_succ, i64_w, i32_w]
      rfl
    refine pure_ (i := 5) (N := some 13) (v := ?_) (a' := ?_) #[true, true, true, true, true, true, false, false, false, false, false, false, false, false] rfl rfl (by kernel_rfl) (fun _ _ _ h => h) (Or.inl ⟨by rfl, ?_⟩) ?_ ?_
    rotate_left
    · intro w'
      go_simp
      with_reducible rfl
    rotate_left
    · simp only [Act.put, List.setIfInBounds_toArray, List.set_cons_zero, List.set_cons_succ, i64_w, i32_w]
      rfl
    refine pure_ (i := 6) (N := some 14) (v := ?_) (a' := ?_) #[true, true, true, true, true, true, true, false, false, false, false, false, false, false] rfl rfl (by kernel_rfl) (fun _ _ _ h => h) (Or.inl ⟨by rfl, ?_⟩) ?_ ?_
    rotate_left
    · intro w'
      go_simp
      with_reducible rfl
    rotate_left
    · simp only [Act.put, List.setIfInBounds_toArray, List.set_cons_zero, List.set_cons_succ, i64_w, i32_w]
      rfl
    refine pure_ (i := 7) (N := some 15) (v := ?_) (a' := ?_) #[true, true, true, true, true, true, true, true, false, false, false, false, false, false] rfl rfl (by kernel_rfl) (fun _ _ _ h => h) (Or.inl ⟨by rfl, ?_⟩) ?_ ?_
    rotate_left
    · intro w'
      go_simp
      with_reducible rfl
    rotate_left
    · simp only [Act.put, List.setIfInBounds_toArray, List.set_cons_zero, List.set_cons_succ, i64_w, i32_w]
      rfl
    refine pure_ (i := 8) (N := some 16) (v := ?_) (a' := ?_) #[true, true, true, true, true, true, true, true, true, false, false, false, false, false] rfl rfl (by kernel_rfl) (fun _ _ _ h => h) (Or.inl ⟨by rfl, ?_⟩) ?_ ?_
    rotate_left
    · intro w'
      go_simp
      with_reducible rfl
    rotate_left
    · simp only [Act.put, List.setIfInBounds_toArray, List.set_cons_zero, List.set_cons_succ, i64_w, i32_w]
      rfl
    refine pure_ (i := 9) (N := some 17) (v := ?_) (a' := ?_) #[true, true, true, true, true, true, true, true, true, true, false, false, false, false] rfl rfl (by kernel_rfl) (fun _ _ _ h => h) (Or.inl ⟨by rfl, ?_⟩) ?_ ?_
    rotate_left
    · intro w'
      go_simp
      with_reducible rfl
    rotate_left
    · simp only [Act.put, List.setIfInBounds_toArray, List.set_cons_zero, List.set_cons_succ, i64_w, i32_w]
      rfl
    refine take_ (i := 10) (N := some 18) (v := ?_) (a' := ?_) #[true, true, true, true, true, true, true, true, true, true, true, false, false, false] rfl rfl (by kernel_rfl) (fun _ _ _ h => h) (Or.inl ⟨by rfl, ?_⟩) hHeld ?_ ?_
    rotate_left
    · rintro w' ⟨s0, s1⟩
      go_simp
      with_reducible rfl
    rotate_left
    · simp only [Act.put, List.setIfInBounds_toArray, List.set_cons_zero, List.set_cons_succ, i64_w, i32_w]
      rfl
    refine pure_ (i := 11) (N := some 19) (v := ?_) (a' := ?_) #[true, true, true, true, true, true, true, true, true, true, true, true, false, false] rfl rfl (by kernel_rfl) (fun _ _ _ h => h) (Or.inl ⟨by rfl, ?_⟩) ?_ ?_
    rotate_left
    · intro w'
      go_simp
      with_reducible rfl
    rotate_left
    · simp only [Act.put, List.setIfInBounds_toArray, List.set_cons_zero, List.set_cons_succ, i64_w, i32_w]
      rfl
    refine pure_ (i := 12) (N := some 20) (v := ?_) (a' := ?_) #[true, true, true, true, true, true, true, true, true, true, true, true, true, false] rfl rfl (by kernel_rfl) (fun _ _ _ h => h) (Or.inl ⟨by rfl, ?_⟩) ?_ ?_
    rotate_left
    · intro w'
      go_simp
      with_reducible rfl
    rotate_left
    · simp only [Act.put, List.setIfInBounds_toArray, List.set_cons_zero, List.set_cons_succ, i64_w, i32_w]
      rfl
    refine pure_ (i := 13) (N := some 21) (v := ?_) (a' := ?_) #[true, true, true, true, true, true, true, true, true, true, true, true, true, true] rfl rfl (by kernel_rfl) (fun _ _ _ h => h) (Or.inl ⟨by rfl, ?_⟩) ?_ ?_
    rotate_left
    · intro w'
      go_simp
      with_reducible rfl
    rotate_left
    · simp only [Act.put, List.setIfInBounds_toArray, List.set_cons_zero, List.set_cons_succ, i64_w, i32_w]
      rfl
    refine done_ (by kernel_rfl) ?_
    clear hHeld
    go_wp2_with fail
    have hdr := below_drew (Below.refl w2.heap.size w2)
    replace HBX := Lib.hid ((hdr.block _ (blk_lt HBX.out)).trans HBX.out)
    replace HR := Lib.hid (Kd.R_below HR.out hdr)
    replace HBA := Lib.hid (HBA.out.trans (hdr.mono HBA.out.size))
    replace hc1 := cell_w hdr hc1
    have hb1 : w2.drew.cell? ⟨w.heap.size, 1, none⟩ = some (.int .i64 s.f1) := by rw [cell_of_row _ w.heap.size 1 _ _ _ HBX.out]; rfl
    clear hdr hc0 hb0 hfz
    refine start_ (n := 15) (S := fun w' => w'.cell? ⟨w.heap.size, 1, none⟩ = some (.int .i64 s.f1) ∧ w'.cell? ⟨g, (l.length - 1) * 2 + 1, none⟩ = some (.int .i64 p.f1)) (ds := [14]) #[false, false, false, false, false, false, false, false, false, false, false, false, false, false, false] (by kernel_rfl) rfl rfl ⟨hb1, hc1⟩ (fun hHeld => ?_)
    generalize w2.drew = w3 at HBX HR HBA hb1 hc1 hHeld ⊢
    refine pure_ (i := 0) (N := some 22) (v := ?_) (a' := ?_) #[true, false, false, false, false, false, false, false, false, false, false, false, false, false, false] rfl rfl (by kernel_rfl) (fun _ _ _ h => h) (Or.inl ⟨by rfl, ?_⟩) ?_ ?_
    rotate_left
    · intro w'
      go_simp
      with_reducible rfl
    rotate_left
    · simp only [Act.put, List.setIfInBounds_toArray, List.set_cons_zero, List.set_cons_succ, i64_w, i32_w]
      rfl
    refine pure_ (i := 1) (N := some 23) (v := ?_) (a' := ?_) #[true, true, false, false, false, false, false, false, false, false, false, false, false, false, false] rfl rfl (by kernel_rfl) (fun _ _ _ h => h) (Or.inl ⟨by rfl, ?_⟩) ?_ ?_
    rotate_left
    · intro w'
      go_simp
      with_reducible rfl
    rotate_left
    · simp only [Act.put, List.setIfInBounds_toArray, List.set_cons_zero, List.set_cons_succ, i64_w, i32_w]
      rfl
    refine pure_ (i := 2) (N := some 24) (v := ?_) (a' := ?_) #[true, true, true, false, false, false, false, false, false, false, false, false, false, false, false] rfl rfl (by kernel_rfl) (fun _ _ _ h => h) (Or.inl ⟨by rfl, ?_⟩) ?_ ?_
    rotate_left
    · intro w'
      go_simp
      with_reducible rfl
    rotate_left
    · simp only [Act.put, List.setIfInBounds_toArray, List.set_cons_zero, List.set_cons_succ, i64_w, i32_w]
      rfl
    refine pure_ (i := 3) (N := some 25) (v := ?_) (a' := ?_) #[true, true, true, true, false, false, false, false, false, false, false, false, false, false, false] rfl rfl (by kernel_rfl) (fun _ _ _ h => h) (Or.inl ⟨by rfl, ?_⟩) ?_ ?_
    rotate_left
    · intro w'
      go_simp
      with_reducible rfl
    rotate_left
    · simp only [Act.put, List.setIfInBounds_toArray, List.set_cons_zero, List.set_cons_succ, i64_w, i32_w]
      rfl
    refine pure_ (i := 4) (N := some 26) (v := ?_) (a' := ?_) #[true, true, true, true, true, false, false, false, false, false, false, false, false, false, false] rfl rfl (by kernel_rfl) (fun _ _ _ h => h) (Or.inl ⟨by rfl, ?_⟩) ?_ ?_
    rotate_left
    · intro w'
      go_simp
      with_reducible rfl
    rotate_left
    · simp only [Act.put, List.setIfInBounds_toArray, List.set_cons_zero, List.set_cons_succ, i64_w, i32_w]
      rfl
    refine pure_ (i := 5) (N := some 27) (v := ?_) (a' := ?_) #[true, true, true, true, true, true, false, false, false, false, false, false, false, false, false] rfl rfl (by kernel_rfl) (fun _ _ _ h => h) (Or.inl ⟨by rfl, ?_⟩) ?_ ?_
    rotate_left
    · intro w'
      go_simp
      with_reducible rfl
    rotate_left
    · simp only [Act.put, List.setIfInBounds_toArray, List.set_cons_zero, List.set_cons_succ, i64_w, i32_w]
      rfl
    refine pure_ (i := 6) (N := some 28) (v := ?_) (a' := ?_) #[true, true, true, true, true, true, true, false, false, false, false, false, false, false, false] rfl rfl (by kernel_rfl) (fun _ _ _ h => h) (Or.inl ⟨by rfl, ?_⟩) ?_ ?_
    rotate_left
    · intro w'
      go_simp
      with_reducible rfl
    rotate_left
    · simp only [Act.put, List.setIfInBounds_toArray, List.set_cons_zero, List.set_cons_succ, i64_w, i32_w]
      rfl
    refine pure_ (i := 7) (N := some 29) (v := ?_) (a' := ?_) #[true, true, true, true, true, true, true, true, false, false, false, false, false, false, false] rfl rfl (by kernel_rfl) (fun _ _ _ h => h) (Or.inl ⟨by rfl, ?_⟩) ?_ ?_
    rotate_left
    · intro w'
      go_simp
      with_reducible rfl
    rotate_left
    · simp only [Act.put, List.setIfInBounds_toArray, List.set_cons_zero, List.set_cons_succ, i64_w, i32_w]
      rfl
    refine take_ (i := 8) (N := some 30) (v := ?_) (a' := ?_) #[true, true, true, true, true, true, true, true, true, false, false, false, false, false, false] rfl rfl (by kernel_rfl) (fun _ _ _ h => h) (Or.inl ⟨by rfl, ?_⟩) hHeld ?_ ?_
    rotate_left
    · rintro w' ⟨s0, s1⟩
      go_simp
      with_reducible rfl
    rotate_left
    · simp only [Act.put, List.setIfInBounds_toArray, List.set_cons_zero, List.set_cons_succ, i64_w, i32_w]
      rfl
    refine pure_ (i := 9) (N := some 31) (v := ?_) (a' := ?_) #[true, true, true, true, true, true, true, true, true, true, false, false, false, false, false] rfl rfl (by kernel_rfl) (fun _ _ _ h => h) (Or.inl ⟨by rfl, ?_⟩) ?_ ?_
    rotate_left
    · intro w'
      go_simp
      with_reducible rfl
    rotate_left
    · simp only [Act.put, List.setIfInBounds_toArray, List.set_cons_zero, List.set_cons_succ, i64_w, i32_w]
      rfl
    refine take_ (i := 10) (N := some 32) (v := ?_) (a' := ?_) #[true, true, true, true, true, true, true, true, true, true, true, false, false, false, false] rfl rfl (by kernel_rfl) (fun _ _ _ h => h) (Or.inl ⟨by rfl, ?_⟩) hHeld ?_ ?_
    rotate_left
    · rintro w' ⟨s0, s1⟩
      go_simp
      with_reducible rfl
    rotate_left
    · simp only [Act.put, List.setIfInBounds_toArray, List.set_cons_zero, List.set_cons_succ, i64_w, i32_w]
      rfl
    refine pure_ (i := 11) (N := some 33) (v := ?_) (a' := ?_) #[true, true, true, true, true, true, true, true, true, true, true, true, false, false, false] rfl rfl (by kernel_rfl) (fun _ _ _ h => h) (Or.inl ⟨by rfl, ?_⟩) ?_ ?_
    rotate_left
    · intro w'
      go_simp
      with_reducible rfl
    rotate_left
    · simp only [Act.put, List.setIfInBounds_toArray, List.set_cons_zero, List.set_cons_succ, i64_w, i32_w]
      rfl
    refine pure_ (i := 12) (N := some 34) (v := ?_) (a' := ?_) #[true, true, true, true, true, true, true, true, true, true, true, true, true, false, false] rfl rfl (by kernel_rfl) (fun _ _ _ h => h) (Or.inl ⟨by rfl, ?_⟩) ?_ ?_
    rotate_left
    · intro w'
      go_simp
      with_reducible rfl
    rotate_left
    · simp only [Act.put, List.setIfInBounds_toArray, List.set_cons_zero, List.set_cons_succ, i64_w, i32_w]
      rfl
    refine pure_ (i := 13) (N := some 35) (v := ?_) (a' := ?_) #[true, true, true, true, true, true, true, true, true, true, true, true, true, true, false] rfl rfl (by kernel_rfl) (fun _ _ _ h => h) (Or.inl ⟨by rfl, ?_⟩) ?_ ?_
    rotate_left
    · intro w'
      go_simp
      with_reducible rfl
    rotate_left
    · simp only [Act.put, List.setIfInBounds_toArray, List.set_cons_zero, List.set_cons_succ, i64_w, i32_w]
      rfl
    refine last_ (i := 14) (N := none) #[true, true, true, true, true, true, true, true, true, true, true, true, true, true, true] rfl rfl (by kernel_rfl) (by decide) (fun K hK => ?_)
    have hfz := (R_own40 HR.out).frozenAt ((l.length - 1) * 2 + 1)
    refine skip_step (w1 := w3.setCell ⟨g, (l.length - 1) * 2 + 1, none⟩ (.int .i64 (if p.f1 < s.f1 then s.f1 else p.f1))) (by rfl) (by go_simp) ?_
    refine hK.out _ _ ?_
    clear hK K
    refine norm_ (a' := ?_) ?_ ?_
    rotate_left
    · show Act.put _ none _ = _
      simp only [Act.put, List.setIfInBounds_toArray, List.set_cons_zero, List.set_cons_succ, i64_w, i32_w]
      try rfl
    refine done_ (by kernel_rfl) ?_
    clear hHeld
    go_wp2_with fail
    all_goals
      go_ret
      exact put_end hl0 (by omega) HJ.out HR.out HBA.out
  · have hg1 : decide (s.f0 ≤ p.f1 + 1) = false := decide_eq_false hle
    have HJ := Lib.hid (putS_new HP.out hle)
    go_enter Try.func27, Try.ntmps27
    go_wp2_with fail
    generalize w.alloc (.cells #[.int .i64 s.f0, .int .i64 s.f1] 40) = w1 at HBX HR HBA hc0 hc1 ⊢
    have hdr := below_drew (Below.refl w1.heap.size w1)
    replace HBX := Lib.hid ((hdr.block _ (blk_lt HBX.out)).trans HBX.out)
    replace HR := Lib.hid (Kd.R_below HR.out hdr)
    replace HBA := Lib.hid (HBA.out.trans (hdr.mono HBA.out.size))
    replace hc0 := cell_w hdr hc0
    replace hc1 := cell_w hdr hc1
    have hb0 : w1.drew.cell? ⟨w.heap.size, 0, none⟩ = some (.int .i64 s.f0) := by rw [cell_of_row _ w.heap.size 0 _ _ _ HBX.out]; rfl
    clear hdr
    refine start_ (n := 14) (S := fun w' => w'.cell? ⟨w.heap.size, 0, none⟩ = some (.int .i64 s.f0) ∧ w'.cell? ⟨g, (l.length - 1) * 2 + 1, none⟩ = some (.int .i64 p.f1)) (ds := []) #[false, false, false, false, false, false, false, false, false, false, false, false, false, false] (by kernel_rfl) rfl rfl ⟨hb0, hc1⟩ (fun hHeld => ?_)
    generalize w1.drew = w2 at HBX HR HBA hb0 hc0 hc1 hHeld ⊢
    refine pure_ (i := 0) (N := some 8) (v := ?_) (a' := ?_) #[true, false, false, false, false, false, false, false, false, false, false, false, false, false] rfl rfl (by kernel_rfl) (fun _ _ _ h => h) (Or.inl ⟨by rfl, ?_⟩) ?_ ?_
    rotate_left
    · intro w'
      go_simp
      with_reducible rfl
    rotate_left
    · simp only [Act.put, List.setIfInBounds_toArray, List.set_cons_zero, List.set_cons_succ, i64_w, i32_w]
      rfl
    refine pure_ (i := 1) (N := some 9) (v := ?_) (a' := ?_) #[true, true, false, false, false, false, false, false, false, false, false, false, false, false] rfl rfl (by kernel_rfl) (fun _ _ _ h => h) (Or.inl ⟨by rfl, ?_⟩) ?_ ?_
    rotate_left
    · intro w'
      go_simp
      with_reducible rfl
    rotate_left
    · simp only [Act.put, List.setIfInBounds_toArray, List.set_cons_zero, List.set_cons_succ, i64_w, i32_w]
      rfl
    refine pure_ (i := 2) (N := some 10) (v := ?_) (a' := ?_) #[true, true, true, false, false, false, false, false, false, false, false, false, false, false] rfl rfl (by kernel_rfl) (fun _ _ _ h => h) (Or.inl ⟨by rfl, ?_⟩) ?_ ?_
    rotate_left
    · intro w'
      go_simp
      with_reducible rfl
    rotate_left
    · simp only [Act.put, List.setIfInBounds_toArray, List.set_cons_zero, List.set_cons_succ, i64_w, i32_w]
      rfl
    refine pure_ (i := 3) (N := some 11) (v := ?_) (a' := ?_) #[true, true, true, true, false, false, false, false, false, false, false, false, false, false] rfl rfl (by kernel_rfl) (fun _ _ _ h => h) (Or.inl ⟨by rfl, ?_⟩) ?_ ?_
    rotate_left
    · intro w'
      go_simp
      with_reducible rfl
    rotate_left
    · simp only [Act.put, List.setIfInBounds_toArray, List.set_cons_zero, List.set_cons_succ, i64_w, i32_w]
      rfl
    refine take_ (i := 4) (N := some 12) (v := ?_) (a' := ?_) #[true, true, true, true, true, false, false, false, false, false, false, false, false, false] rfl rfl (by kernel_rfl) (fun _ _ _ h => h) (Or.inl ⟨by rfl, ?_⟩) hHeld ?_ ?_
    rotate_left
    · rintro w' ⟨s0, s1⟩
      go_simp
      with_reducible rfl
    rotate_left
    · simp only [Act.put, List.setIfInBounds_toArray, List.set_cons_zero, List.set_cons_succ, i64_w, i32_w]
      rfl
    refine pure_ (i := 5) (N := some 13) (v := ?_) (a' := ?_) #[true, true, true, true, true, true, false, false, false, false, false, false, false, false] rfl rfl (by kernel_rfl) (fun _ _ _ h => h) (Or.inl ⟨by rfl, ?_⟩) ?_ ?_
    rotate_left
    · intro w'
      go_simp
      with_reducible rfl
    rotate_left
    · simp only [Act.put, List.setIfInBounds_toArray, List.set_cons_zero, List.set_cons_succ, i64_w, i32_w]
      rfl
    refine pure_ (i := 6) (N := some 14) (v := ?_) (a' := ?_) #[true, true, true, true, true, true, true, false, false, false, false, false, false, false] rfl rfl (by kernel_rfl) (fun _ _ _ h => h) (Or.inl ⟨by rfl, ?_⟩) ?_ ?_
    rotate_left
    · intro w'
      go_simp
      with_reducible rfl
    rotate_left
    · simp only [Act.put, List.setIfInBounds_toArray, List.set_cons_zero, List.set_cons_succ, i64_w, i32_w]
      rfl
    refine pure_ (i := 7) (N := some 15) (v := ?_) (a' := ?_) #[true, true, true, true, true, true, true, true, false, false, false, false, false, false] rfl rfl (by kernel_rfl) (fun _ _ _ h => h) (Or.inl ⟨by rfl, ?_⟩) ?_ ?_
    rotate_left
    · intro w'
      go_simp
      with_reducible rfl
    rotate_left
    · simp only [Act.put, List.setIfInBounds_toArray, List.set_cons_zero, List.set_cons_succ, i64_w, i32_w]
      rfl
    refine pure_ (i := 8) (N := some 16) (v := ?_) (a' := ?_) #[true, true, true, true, true, true, true, true, true, false, false, false, false, false] rfl rfl (by kernel_rfl) (fun _ _ _ h => h) (Or.inl ⟨by rfl, ?_⟩) ?_ ?_
    rotate_left
    · intro w'
      go_simp
      with_reducible rfl
    rotate_left
    · simp only [Act.put, List.setIfInBounds_toArray, List.set_cons_zero, List.set_cons_succ, i64_w, i32_w]
      rfl
    refine pure_ (i := 9) (N := some 17) (v := ?_) (a' := ?_) #[true, true, true, true, true, true, true, true, true, true, false, false, false, false] rfl rfl (by kernel_rfl) (fun _ _ _ h => h) (Or.inl ⟨by rfl, ?_⟩) ?_ ?_
    rotate_left
    · intro w'
      go_simp
      with_reducible rfl
    rotate_left
    · simp only [Act.put, List.setIfInBounds_toArray, List.set_cons_zero, List.set_cons_succ, i64_w, i32_w]
      rfl
    refine take_ (i := 10) (N := some 18) (v := ?_) (a' := ?_) #[true, true, true, true, true, true, true, true, true, true, true, false, false, false] rfl rfl (by kernel_rfl) (fun _ _ _ h => h) (Or.inl ⟨by rfl, ?_⟩) hHeld ?_ ?_
    rotate_left
    · rintro w' ⟨s0, s1⟩
      go_simp
      with_reducible rfl
    rotate_left
    · simp only [Act.put, List.setIfInBounds_toArray, List.set_cons_zero, List.set_cons_succ, i64_w, i32_w]
      rfl
    refine pure_ (i := 11) (N := some 19) (v := ?_) (a' := ?_) #[true, true, true, true, true, true, true, true, true, true, true, true, false, false] rfl rfl (by kernel_rfl) (fun _ _ _ h => h) (Or.inl ⟨by rfl, ?_⟩) ?_ ?_
    rotate_left
    · intro w'
      go_simp
      with_reducible rfl
    rotate_left
    · simp only [Act.put, List.setIfInBounds_toArray, List.set_cons_zero, List.set_cons_succ, i64_w, i32_w]
      rfl
    refine pure_ (i := 12) (N := some 20) (v := ?_) (a' := ?_) #[true, true, true, true, true, true, true, true, true, true, true, true, true, false] rfl rfl (by kernel_rfl) (fun _ _ _ h => h) (Or.inl ⟨by rfl, ?_⟩) ?_ ?_
    rotate_left
    · intro w'
      go_simp
      with_reducible rfl
    rotate_left
    · simp only [Act.put, List.setIfInBounds_toArray, List.set_cons_zero, List.set_cons_succ, i64_w, i32_w]
      rfl
    refine pure_ (i := 13) (N := some 21) (v := ?_) (a' := ?_) #[true, true, true, true, true, true, true, true, true, true, true, true, true, true] rfl rfl (by kernel_rfl) (fun _ _ _ h => h) (Or.inl ⟨by rfl, ?_⟩) ?_ ?_
    rotate_left
    · intro w'
      go_simp
      with_reducible rfl
    rotate_left
    · simp only [Act.put, List.setIfInBounds_toArray, List.set_cons_zero, List.set_cons_succ, i64_w, i32_w]
      rfl
    refine done_ (by kernel_rfl) ?_
    clear hHeld
    have hb0 : w2.cell? ⟨w.heap.size, 0, none⟩ = some (.int .i64 s.f0) := by rw [cell_of_row _ w.heap.size 0 _ _ _ HBX.out]; rfl
    have hb1 : w2.cell? ⟨w.heap.size, 1, none⟩ = some (.int .i64 s.f1) := by rw [cell_of_row _ w.heap.size 1 _ _ _ HBX.out]; rfl
    have hs2 := HBA.out.size
    have hfr : ∀ k, w2.heap.size ≤ k → ok k := fun k hk => HF.out k (Nat.le_trans hs2 hk)
    have HFR := Lib.hid hfr
    clear hfr
    have hbs : base ≤ w2.heap.size := Nat.le_trans hbase hs2
    go_wp2_with (at_builtin; refine Kd.R_append k40 (w0 := w2) base rfl (.tmp 37) (.tmp 39) 22 40 (.agg #[(.int .i64 0), (.int .i64 0)]) 16 rfl Try.underlying22 info40 rfl (by decide) (by omega) _ l s [.int .i64 s.f0, .int .i64 s.f1] ok (fun _ => False) rfl rfl (k40_mkM _ _ _ s) (fun _ hk => hk.elim) HFR.out HR.out (Below.refl _ _) hbs (by omega) ?_; intro v1 w3 hO1 hB1 hg1 hat1)
    go_ret
    refine ⟨_, rfl, HJ.out ▸ hO1, grown_after HBA.out hg1, ?_⟩
    rcases hat1 with e | ⟨b, e, hb⟩
    · exact .inl e
    · exact .inr ⟨b, e, Nat.le_trans hs2 hb⟩
/-- put, whatever the list holds. -/
theorem put_any (base : Nat) (ok : Nat → Prop) (v : Value) (l : List S40) (s : S40) (w : World) (hpb : ∀ p ∈ l, -4611686018427387904 ≤ p.f1 ∧ p.f1 ≤ 4611686018427387903) (hlen : l.length ≤ 1000000000) (HO : k40.R 40 w base ok v l) (hfresh : ∀ k, w.heap.size ≤ k → ok k) (hbase : base ≤ w.heap.size) :
    Calls Try.prog 27 #[v, .agg #[.int .i64 s.f0, .int .i64 s.f1]] w (PutPost base ok v (putS l s) w) := by
  cases hp : l.getLast? with
  | none =>
    rw [List.getLast?_eq_none_iff] at hp
    subst hp
    exact put_nil base ok v s w HO hfresh hbase
  | some p => exact put_some base ok v l s p w hp (hpb p (List.mem_of_getLast? hp)) hlen HO hfresh hbase
end Go.Proofs.Yteachgaabfaanaa
