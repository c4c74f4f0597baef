/- The document's walk: plain facts, and what its parts need. -/
import Derived.Test.YtlgnogpjmdhflaaDoorTreeU
namespace Go.Proofs.YtlgnogpjmdhflaaDoor
open Go.RowKit Go.Proofs.YtlgnogpjmdhflaaDoorW.PrintWords Go.Proofs.YtlgnogpjmdhflaaDoorW.PrintLast Go.Proofs.YtlgnogpjmdhflaaDoorW.PrintMore Go.Proofs.YtlgnogpjmdhflaaDoor.PRef Go.Maps
set_option linter.unusedVariables false
set_option linter.unusedSimpArgs false

namespace TM
/-- A node's kids, put in: the node then has the text that it must have. -/
theorem shr_kids {t : List Nd} (hm : Mays t) (m i : Nat) (out : List Nd) (hi : i ≤ m) (hl : i < t.length) (ho : Ok out) :
    Ok (kidsOf (shr t m) (nd t i).2.2 out).1 ∧ ok (kidsOf (shr t m) (nd t i).2.2 out).1.length ((nd t i).1, (nd t i).2.1, (kidsOf (shr t m) (nd t i).2.2 out).2) ∧
    T t i = form (nd t i).1 (nd t i).2.1 ((kidsOf (shr t m) (nd t i).2.2 out).2.map fun k => T (kidsOf (shr t m) (nd t i).2.2 out).1 k.toNat) := by
  have hok := hm i hl
  obtain ⟨b1, b2, b3, b4, b5, b6⟩ := kidsOf_spec (t := t) (g := shr t m) (nd t i).2.2 out ho fun k hk o ho' => by
    have := hok.2 k hk
    exact shr_spec hm m k.toNat o (by omega) (by omega) ho'
  exact ⟨b1, ⟨by rw [b3]; exact hok.1, b4⟩, by rw [T_eq hm hl, b5]⟩
theorem put_lost {out : List Nd} {n : Nd} (h : Mays out) (hno : ∀ j, j < out.length → T out j ≠ form n.1 n.2.1 (n.2.2.map fun k => T out k.toNat)) : put out n = (out ++ [n], out.length) := by
  unfold put
  rw [if_neg]
  intro e
  have hl := List.idxOf_lt_length_of_mem e
  refine hno _ hl ?_
  rw [T_eq h hl, nd_idxOf e]
/-- The texts of nodes. -/
def texts (out : List Nd) : List Txt := (List.range out.length).map (T out)
theorem texts_length (out : List Nd) : (texts out).length = out.length := by simp [texts]
theorem texts_snoc {out : List Nd} {n : Nd} (h : Mays out) (hn : ok out.length n) : texts (out ++ [n]) = texts out ++ [form n.1 n.2.1 (n.2.2.map fun k => T out k.toNat)] := by
  unfold texts
  rw [List.length_append, List.length_singleton, List.range_succ, List.map_append]
  congr 1
  · exact List.map_congr_left fun i hi => T_append h [n] (List.mem_range.1 hi)
  · simp only [List.map_cons, List.map_nil]
    rw [T_snoc h hn]
/-- A text's begin. -/
def head (k p : Int) : Txt := 40 :: (dg k ++ 32 :: dg p)
theorem form_head (k p : Int) (ts : List Txt) : form k p ts = head k p ++ ts.flatten ++ [41] := by simp [form, head]
theorem form_len (k p : Int) (ts : List Txt) : (form k p ts).length = (head k p).length + ts.flatten.length + 1 := by rw [form_head]; simp; omega
end TM

def nd7 (n : S47) : TM.Nd := (n.f0, n.f1, n.f2)
def nds7 (l : List S47) : List TM.Nd := l.map nd7
theorem nds7_length (l : List S47) : (nds7 l).length = l.length := List.length_map _
theorem nds7_conv (l : List S46) : nds7 (l.map conv) = nds l := by
  unfold nds7 nds
  rw [List.map_map]
  rfl
theorem nd_nds7 (l : List S47) (i : Nat) (h : i < l.length) : TM.nd (nds7 l) i = nd7 (rd_T47 l i) := by
  unfold TM.nd nds7 rd_T47
  simp [List.getD_eq_getElem?_getD, List.getElem?_eq_getElem h]
theorem nds7_inj : ∀ {a b : List S47}, nds7 a = nds7 b → a = b := by
  intro a
  induction a with
  | nil => intro b h; cases b with
    | nil => rfl
    | cons => simp [nds7] at h
  | cons x a ih =>
    intro b h
    cases b with
    | nil => simp [nds7] at h
    | cons y b =>
      simp only [nds7, List.map_cons, List.cons.injEq] at h
      rw [ih h.2]
      cases x
      cases y
      simp only [nd7, Prod.mk.injEq] at h
      obtain ⟨⟨rfl, rfl, rfl⟩, _⟩ := h
      rfl

/-- A text as a string. -/
def strT (l : List UInt8) : ByteArray := ⟨l.toArray⟩
theorem strT_inj {a b : List UInt8} (h : strT a = strT b) : a = b := by
  unfold strT at h
  injection h with h
  simpa using h
theorem strT_size (l : List UInt8) : (strT l).size = l.length := by simp [strT, ByteArray.size]
theorem strT_append (a b : List UInt8) : strT a ++ strT b = strT (a ++ b) := by
  apply ByteArray.ext
  simp [strT]
def textsS (out : List S47) : List ByteArray := (TM.texts (nds7 out)).map strT
theorem textsS_length (out : List S47) : (textsS out).length = out.length := by unfold textsS; rw [List.length_map, TM.texts_length, nds7_length]
theorem textsS_at (out : List S47) (j : Nat) (h : j < out.length) : rdOf ByteArray.empty (textsS out) (j : Int) = strT (TM.T (nds7 out) j) := by
  unfold rdOf textsS TM.texts
  have h' : j < (nds7 out).length := by rw [nds7_length]; exact h
  simp [List.getD_eq_getElem?_getD, h']

theorem cat_T (a b : List UInt8) (h : a.length + b.length ≤ 1000000) : ∀ W, (Op.stringOp .add (strT a) (strT b)).run Tryd.prog W = .ok (.string (strT (a ++ b))) W := fun W => by
  rw [cat_run (strT a) (strT b) (by rw [strT_size, strT_size]; omega) W, strT_append]

theorem digits_f (n : Int) (h0 : 0 ≤ n) (h1 : n < 100) : stratagemref19_digits.f 3 n = some (strT (TM.dg n)) := by
  have one : ∀ (k : Nat) (x : Int), 0 ≤ x → x < 10 → stratagemref19_digits.f (k + 1) x = some (strT [UInt8.ofNat (48 + x.toNat)]) := by
    intro k x hx0 hx1
    rw [stratagemref19_digits.f, if_pos hx1]
    have e : wrap64 (48 + x) % 256 = 48 + x := by unfold wrap64; omega
    rw [e]
    have : x = 0 ∨ x = 1 ∨ x = 2 ∨ x = 3 ∨ x = 4 ∨ x = 5 ∨ x = 6 ∨ x = 7 ∨ x = 8 ∨ x = 9 := by omega
    rcases this with rfl | rfl | rfl | rfl | rfl | rfl | rfl | rfl | rfl | rfl <;> rfl
  unfold TM.dg
  by_cases h : n < 10
  · rw [if_pos h]
    exact one 2 n h0 h
  · rw [if_neg h, stratagemref19_digits.f, if_neg h]
    have e1 : Int.tdiv n 10 = n / 10 := Int.tdiv_eq_ediv_of_nonneg h0
    have e2 : Int.tmod n 10 = n % 10 := Int.tmod_eq_emod_of_nonneg h0
    have e3 : wrap64 (n / 10) = n / 10 := by unfold wrap64; omega
    rw [e1, e2, e3, one 1 (n / 10) (by omega) (by omega), one 1 (n % 10) (by omega) (by omega)]
    simp only [Option.bind_some]
    rw [if_pos (by rw [strT_size, strT_size]; simp), strT_append]
    rfl
theorem digits_any (n : Int) (h0 : 0 ≤ n) (h1 : n < 100) (w : World) : Calls Tryd.prog 37 #[.int .i64 n] w fun e w' => e = .returned (.string (strT (TM.dg n))) ∧ Below w.heap.size w w' :=
  stratagemref19_digits.calls 3 n _ w (digits_f n h0 h1)

/-- What the walk carries: texts, and their nodes; ok: where they may lie. -/
structure Tx (w : World) (ok : Nat → Prop) (TA : Option Addr) (tc : Nat) (OA : Option Addr) (oc : Nat) (out : List S47) : Prop where
  tF : Kd.F Kd.string w ok TA out.length (textsS out)
  tc : out.length ≤ tc
  oF : Kd.F k47 w ok OA out.length out
  oc : out.length ≤ oc
section
variable {w w' : World} {ok ok' : Nat → Prop} {TA : Option Addr} {tc : Nat} {OA : Option Addr} {oc : Nat} {out : List S47}
theorem Tx.step (h : Tx w ok TA tc OA oc out) (hb : Below w.heap.size w w') : Tx w' ok TA tc OA oc out := ⟨Kd.F_below h.tF hb, h.tc, Kd.F_below h.oF hb, h.oc⟩
theorem Tx.mono (h : Tx w ok TA tc OA oc out) (hk : ∀ k, ok k → ok' k) : Tx w ok' TA tc OA oc out := ⟨Kd.F_mono h.tF hk, h.tc, Kd.F_mono h.oF hk, h.oc⟩
theorem Tx.bound (h : Tx w ok TA tc OA oc out) : Tx w (fun k => ok k ∧ k < w.heap.size) TA tc OA oc out := ⟨Kd.F_bound h.tF, h.tc, Kd.F_bound h.oF, h.oc⟩
theorem Tx.after {v v1 : Value} (h : Tx w (fun k => ok k ∧ some k ≠ v.ownBlock) TA tc OA oc out) (hg : w.grownBy w' v.ownBlock) (hat : v1.ownBlock = v.ownBlock ∨ ∃ b, v1.ownBlock = some b ∧ w.heap.size ≤ b) : Tx w' (fun k => ok k ∧ some k ≠ v1.ownBlock) TA tc OA oc out :=
  ⟨Kd.F_after h.tF hg hat, h.tc, Kd.F_after h.oF hg hat, h.oc⟩
end
theorem Tx.nil (w : World) (ok : Nat → Prop) : Tx w ok none 0 none 0 [] := ⟨Kd.F_nil _ _ _, Nat.le_refl _, Kd.F_nil _ _ _, Nat.le_refl _⟩
def WalkT (t : List S47) (m i : Nat) (ok : Nat → Prop) (out : List S47) (w : World) (e : Ending) (w' : World) : Prop :=
  ∃ TA tc OA oc out', e = .returned (.tuple #[.string (strT (TM.T (nds7 t) i)), .slice TA out'.length tc, .slice OA out'.length oc, .int .i64 ((TM.shr (nds7 t) m i (nds7 out)).2 : Int)]) ∧
    nds7 out' = (TM.shr (nds7 t) m i (nds7 out)).1 ∧ Tx w' (fun k => ok k ∨ w.heap.size ≤ k) TA tc OA oc out' ∧ Below w.heap.size w w'
theorem results_tmp4 {fn : Func} {t u v x : Tmp} (h : fn.results = #[.tmp t, .tmp u, .tmp v, .tmp x]) (tmps : Array Value) (P : Program) (w : World) :
    (results fn tmps).run P w = .ok (.tuple #[tmps.getD t undef, tmps.getD u undef, tmps.getD v undef, tmps.getD x undef]) w := by
  simp [results, h]
theorem info9 : (Tryd.prog.info? 9).map (fun i => (i.zero, i.size, i.bytes)) = some (some (.string ⟨#[]⟩), 1, 16) := by kernel_rfl
theorem str_list7 (x : List UInt8) : (strT x).toList = x := by
  rw [Lib.toList_data]
  simp [strT]
theorem str_beq (a b : List UInt8) : ((strT a).toList == (strT b).toList) = decide (a = b) := by
  rw [str_list7, str_list7]
  by_cases h : a = b
  · subst h; simp
  · rw [decide_eq_false h]
    exact beq_eq_false_iff_ne.2 h
theorem textsS_snoc {out : List S47} {n : S47} (h : TM.Mays (nds7 out)) (hn : TM.ok out.length (nd7 n)) : textsS (out ++ [n]) = textsS out ++ [strT (TM.form n.f0 n.f1 (n.f2.map fun k => TM.T (nds7 out) k.toNat))] := by
  unfold textsS
  rw [show nds7 (out ++ [n]) = nds7 out ++ [nd7 n] from by simp [nds7], TM.texts_snoc h (by rw [nds7_length]; exact hn), List.map_append]
  rfl
theorem R_emptyK {α : Type} (d : Kd α) (e : TypeId) (w : World) (base : Nat) (ok : Nat → Prop) (hb : base ≤ w.heap.size) (hok : ok w.heap.size) : d.R e (w.alloc (.cells #[] e)) base ok (.slice (some ⟨w.heap.size, 0, none⟩) 0 0) [] := by
  have h2 := World.ownsRow_lit (base := base) (e := e) (size := d.sz) w #[] 0 hb (by simp [maxLen]) (by simp)
  refine ⟨fun k hk => ?_, [], h2, Reps.none _ _⟩
  have : w.heap.size = k := by simpa [Value.ownBlock] using hk
  subst this
  exact hok
theorem cell_w {w w' : World} {p : Addr} {v : Value} (hb : Below w.heap.size w w') (h : w.cell? p = some v) : w'.cell? p = some v := (hb.cell (World.block_lt_of_cell? w _ h)).trans h
/-! ### A row of nodes that share, and one node more -/
theorem row_lit (W : World) (base : Nat) (ok : Nat → Prop) (hb : base ≤ W.heap.size) (hok : ok W.heap.size) : Kd.N k47 47 (W.alloc (.cells #[] 47)) base ok (.slice (some ⟨W.heap.size, 0, none⟩) 0 0) [] := Kd.R_N (R_emptyK k47 _ W base ok hb hok)
theorem row_lit1 (w3 : World) (o : Obj) (base : Nat) (ok : Nat → Prop) (hb : base ≤ w3.heap.size + 1) (hok : ok (w3.heap.size + 1)) : Kd.N k47 47 ((w3.alloc o).alloc (.cells #[] 47)) base ok (.slice (some ⟨w3.heap.size + 1, 0, none⟩) 0 0) [] := by
  have h := row_lit (w3.alloc o) base ok (by simpa using hb) (by simpa using hok)
  simpa using h
theorem new_row {W : World} {okp : Nat → Prop} {n7 : S47} {cs : List Value} (h : Kd.FK k47 W okp n7 cs) : Kd.F k47 (W.alloc (.cells cs.toArray 47)) (fun k => okp k ∨ k = W.heap.size) (some ⟨W.heap.size, 0, none⟩) 1 [n7] := by
  intro W' hW
  have hb : W'.heap[W.heap.size]? = some (.cells cs.toArray 47 (0, 0)) := by
    rw [hW W.heap.size (.inr rfl) (by simp)]
    exact heap_alloc_new W _
  have hK : k47.K W' n7 cs := h W' fun k hk hlt => by
    rw [hW k (.inl hk) (by simp; omega)]
    exact (below_alloc (Below.refl W.heap.size W) _).block k hlt
  refine ⟨rfl, by omega, fun _ => ⟨_, rfl, fun j p hj => ?_⟩⟩
  rcases j with _ | j
  · simp only [List.getElem?_cons_zero, Option.some.injEq] at hj
    subst hj
    refine ⟨cs, k47.K_len hK, hK, fun i u hu => ?_⟩
    have h1 := cell_of_row W' W.heap.size i cs.toArray 47 (0, 0) hb
    simp only [Nat.zero_mul, Nat.zero_add]
    have h2 : (⟨W.heap.size, 0, none⟩ : Addr).add i = ⟨W.heap.size, i, none⟩ := by cases i <;> simp [Addr.add]
    rw [h2, h1]
    simpa using hu
  · simp at hj
structure Row7 (ok : Nat → Prop) (w w3 : World) (out : List S47) (n7 : S47) (v : Value) (B : Nat) (w' : World) : Prop where
  row : Kd.N k47 47 w' w3.heap.size (fun k => ok k ∨ w.heap.size ≤ k) v out
  new : Kd.F k47 w' (fun k => (ok k ∨ w.heap.size ≤ k) ∧ some k ≠ v.ownBlock) (some ⟨B, 0, none⟩) 1 [n7]
  bw : Below w3.heap.size w3 w'
section
variable {ok : Nat → Prop} {w w3 w4 W : World} {out : List S47} {n7 : S47} {v v4 : Value} {KA : Option Addr} {kc B g : Nat}
theorem row7_FK (hk : Kd.F (Kd.int .i64) w3 (fun k => w.heap.size ≤ k ∧ k < w3.heap.size) KA n7.f2.length n7.f2) (hkc : n7.f2.length ≤ kc) (hb : Below w3.heap.size w3 W) : Kd.FK k47 W (fun k => w.heap.size ≤ k ∧ k < w3.heap.size) n7 [.int .i64 n7.f0, .int .i64 n7.f1, .slice KA n7.f2.length kc] :=
  k47_mkF W _ n7 hkc (Kd.F_below hk hb)
theorem row7_a (hk : Kd.F (Kd.int .i64) w3 (fun k => w.heap.size ≤ k ∧ k < w3.heap.size) KA n7.f2.length n7.f2) (hkc : n7.f2.length ≤ kc) (hw : w.heap.size ≤ w3.heap.size)
    (hO : Kd.N k47 47 w4 w3.heap.size (fun k => ok k ∨ w.heap.size ≤ k) v4 ([] ++ out)) (hb : Below w3.heap.size w3 w4) :
    Row7 ok w w3 out n7 v4 w4.heap.size (w4.alloc (.cells #[.int .i64 n7.f0, .int .i64 n7.f1, .slice KA n7.f2.length kc] 47)) := by
  refine ⟨Kd.N_alloc hO _, Kd.F_mono (new_row (row7_FK hk hkc hb)) fun k hk' => ?_, hb.alloc hb.size _⟩
  have hs := hb.size
  rcases hk' with hk' | rfl
  · exact ⟨.inr hk'.1, fun e => by have := Kd.N_base hO k e.symm; omega⟩
  · exact ⟨.inr (by omega), fun e => by have := Kd.N_lt hO _ e.symm; omega⟩
theorem row7_b (hnew : Kd.F k47 W (fun k => (w.heap.size ≤ k ∧ k < w3.heap.size) ∨ k = B) (some ⟨B, 0, none⟩) 1 [n7]) (hv : v.ownBlock = some g) (hg0 : w3.heap.size ≤ g) (hgB : B ≠ g) (hB : w.heap.size ≤ B)
    (hO : Kd.N k47 47 w4 w3.heap.size (fun k => ok k ∨ w.heap.size ≤ k) v4 ([] ++ out)) (hb : Below w3.heap.size w3 w4) (hg : W.grownBy w4 v.ownBlock) (hat : v4.ownBlock = v.ownBlock ∨ ∃ b, v4.ownBlock = some b ∧ W.heap.size ≤ b) :
    Row7 ok w w3 out n7 v4 B w4 :=
  ⟨hO, Kd.F_after (Kd.F_mono hnew fun k hk' => by
    rw [hv]
    rcases hk' with hk' | rfl
    · exact ⟨.inr hk'.1, fun e => by injection e with e; omega⟩
    · exact ⟨.inr hB, fun e => by injection e with e; exact hgB e⟩) hg hat, hb⟩
theorem row_okp {g0 : Nat} (hg : w3.heap.size ≤ g0) : ∀ k, ((ok k ∨ w.heap.size ≤ k) ∧ k < w3.heap.size) → (ok k ∨ w.heap.size ≤ k) ∧ some k ≠ (Value.slice (some ⟨g0, 0, none⟩) 0 0).ownBlock := fun k hk => ⟨hk.1, fun e => by
  simp [Value.ownBlock] at e
  omega⟩
theorem row_fresh (hw : w.heap.size ≤ w3.heap.size) (hb : w3.heap.size ≤ W.heap.size) : ∀ k, W.heap.size ≤ k → ok k ∨ w.heap.size ≤ k := fun k hk => .inr (by omega)
end
theorem R_empty (w : World) (base : Nat) (ok : Nat → Prop) (hb : base ≤ w.heap.size) (hok : ok w.heap.size) : (Kd.int .i64).R 3 (w.alloc (.cells #[] 3)) base ok (.slice (some ⟨w.heap.size, 0, none⟩) 0 0) [] := by
  have h2 := World.ownsRow_lit (base := base) (e := 3) (size := 1) w #[] 0 hb (by simp [maxLen]) (by simp)
  refine Kd.R_of_own h2 fun k hk => ?_
  have : w.heap.size = k := by simpa [Value.ownBlock] using hk
  subst this
  exact hok
end Go.Proofs.YtlgnogpjmdhflaaDoor
