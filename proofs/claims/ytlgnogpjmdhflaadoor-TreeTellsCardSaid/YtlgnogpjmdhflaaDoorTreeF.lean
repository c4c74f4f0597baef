/- put of tree's sharer: what it finds, and what it lays. -/
import Derived.Test.YtlgnogpjmdhflaaDoorTreeE
import Derived.StringKeys
namespace Go.Proofs.YtlgnogpjmdhflaaDoor
open Go.RowKit Go.Proofs.YtlgnogpjmdhflaaDoorW.PrintWords Go.Proofs.YtlgnogpjmdhflaaDoorW.PrintLast Go.Proofs.YtlgnogpjmdhflaaDoorW.PrintMore Go.Proofs.YtlgnogpjmdhflaaDoor.PRef Go.Maps Go.WideMaps
set_option linter.unusedVariables false
set_option linter.unusedSimpArgs false

/-- Nothing that was there has turned but some blocks. -/
structure Moved (S : Nat → Prop) (w w' : World) : Prop where
  os : w'.os = w.os
  tape : w'.tape = w.tape
  output : w'.output = w.output
  size : w.heap.size ≤ w'.heap.size
  block : ∀ b, b < w.heap.size → ¬ S b → w'.heap[b]? = w.heap[b]?
theorem Moved.refl (S : Nat → Prop) (w : World) : Moved S w w := ⟨rfl, rfl, rfl, Nat.le_refl _, fun _ _ _ => rfl⟩
theorem Moved.trans {S : Nat → Prop} {a b c : World} (h : Moved S a b) (k : Moved S b c) : Moved S a c :=
  ⟨k.os.trans h.os, k.tape.trans h.tape, k.output.trans h.output, Nat.le_trans h.size k.size, fun i hi hn => (k.block i (Nat.lt_of_lt_of_le hi h.size) hn).trans (h.block i hi hn)⟩
theorem Moved.mono {S S' : Nat → Prop} {a b : World} (h : Moved S a b) (hs : ∀ i, i < a.heap.size → S i → S' i) : Moved S' a b := ⟨h.os, h.tape, h.output, h.size, fun i hi hn => h.block i hi fun hsi => hn (hs i hi hsi)⟩
theorem Moved.of_below (S : Nat → Prop) {a b : World} (h : Below a.heap.size a b) : Moved S a b := ⟨h.os, h.tape, h.output, h.size, fun i hi _ => h.block i hi⟩
theorem Moved.of_grown {S : Nat → Prop} {a b : World} {row : Option Nat} (h : a.grownBy b row) (hs : ∀ i, row = some i → S i) : Moved S a b := ⟨h.os, h.tape, h.output, h.size, fun i hi hn => h.block i hi fun e => hn (hs i e.symm)⟩
theorem Moved.below {S : Nat → Prop} {B : Nat} {w a b : World} (h : Moved S a b) (hw : Below B w a) (hB : B ≤ a.heap.size) (hs : ∀ i, S i → B ≤ i) : Below B w b :=
  ⟨h.os.trans hw.os, h.tape.trans hw.tape, h.output.trans hw.output, Nat.le_trans hw.size h.size, fun i hi => (h.block i (by omega) fun e => by have := hs i e; omega).trans (hw.block i hi)⟩
theorem Moved.setCell {S : Nat → Prop} {a b : World} (h : Moved S a b) {p : Addr} (hp : S p.block) (u : Value) : Moved S a (b.setCell p u) :=
  ⟨h.os, h.tape, h.output, by simpa [World.setCell] using h.size, fun i hi hn => (Below.heap_setCell b p u i (fun e => hn (e ▸ hp))).trans (h.block i hi hn)⟩

theorem info46 : (Tryd.prog.info? 46).map (fun i => (i.zero, i.size, i.bytes)) = some (some (.agg #[(.int .i64 0), (.int .i64 0), (.slice none 0 0)]), 3, 40) := by kernel_rfl
/-- A row of numbers is none of nodes. -/
theorem R_apart {ok ok' : Nat → Prop} {v kv : Value} {out : List S46} {ks : List Int} {w : World} {base base' : Nat} (hk : (Kd.int .i64).R 3 w base ok kv ks) (hr : k46.R 46 w base' ok' v out) : (Kd.int .i64).R 3 w base (fun k => ok k ∧ some k ≠ v.ownBlock) kv ks := by
  obtain ⟨inner, ho⟩ := Kd.R_own hr
  have hne := own_type_ne (Kd.own_of_R hk) ho (by decide)
  refine Kd.R_of_own (Kd.own_of_R hk) fun k hk' => ⟨hk.1 k hk', fun e => ?_⟩
  rcases hne with h | h
  · rw [h] at hk'; cases hk'
  · exact h (hk'.trans e)
theorem grown_setCell (w : World) (p : Addr) (u : Value) : w.grownBy (w.setCell p u) (some p.block) := ⟨rfl, rfl, rfl, by simp [World.setCell], fun k _ hk => Below.heap_setCell _ _ _ _ (fun e => hk (congrArg some e))⟩
theorem skip_step {P : Program} {ops : Array Oper} {o : Oper} {a : Act} {Q : Exit → Act → World → Prop} {Kc : Act → World → Prop} {W w1 : World} (hw : Region.wanted o (yielded ops a.tmps) = true) (hrun : (execOp a.eval o).run P W = .ok .skip w1) (h : Kc (a.put o.dst undef) w1) :
    if Region.wanted o (yielded ops a.tmps) = true then Oper.wp P o a W Kc Q else Kc (a.put o.dst undef) W := by
  rw [if_pos hw]
  unfold Oper.wp
  rw [hrun]
  exact h
theorem mapUpdate_step {H : Type} {P : Program} (w : World) {ops : Array Oper} {o : Oper} {a : Act} {Q : Exit → Act → World → Prop} {Kc : Act → World → Prop} (hw : Region.wanted o (yielded ops a.tmps) = true) (m x v : Operand) (t : TypeId) (hop : o.op = Op.mapUpdate t m x v)
    (k e : TypeId) (K : Keyed P k) (ht : P.underlying t = some (.map k e)) (R : Value → Option (DataW H × List MemPlace)) (b n : Nat) (D : DataW H) (hm : a.eval m = .map (some b)) (hown : w.ownsMap P k R b n D) (hn : n < maxLen) (key val : Value) (kl : Lit)
    (hx : a.eval x = key) (hv : a.eval v = val) (hkey : keyOf P k key = some kl) (d : DataW H) (ps : List MemPlace) (hval : R val = some (d, ps)) (hK : ∀ w', w'.ownsMap P k R b (n + 1) (D.put kl d) → w.grownBy w' (some b) → Kc (a.put o.dst undef) w') :
    if Region.wanted o (yielded ops a.tmps) = true then Oper.wp P o a w Kc Q else Kc (a.put o.dst undef) w := by
  rw [if_pos hw]
  obtain ⟨w', hrun, r1, r2⟩ := hown.update K ht hn hkey hval
  unfold Oper.wp
  simp [execOp, hop, hm, hx, hv, hrun, Result.andThen]
  exact hK w' r1 r2
theorem ownsMap_ne {H : Type} {P : Program} {k : TypeId} {R : Value → Option (DataW H × List MemPlace)} {b n : Nat} {D : DataW H} {w : World} (h : w.ownsMap P k R b n D) {g : Nat} {cs : Array Value} {t : TypeId} {fr : Nat × Nat} (hg : w.heap[g]? = some (.cells cs t fr)) : b ≠ g := by
  rintro rfl
  obtain ⟨es, clock, hb, _⟩ := h
  rw [hb] at hg
  cases hg

/-- What is written is a map: rows live on. -/
theorem R_map {α : Type} {d : Kd α} {e : Nat} {w w1 : World} {base : Nat} {ok : Nat → Prop} {v : Value} {xs : List α} {H : Type} {P : Program} {k : TypeId} {R : Value → Option (DataW H × List MemPlace)} {b n : Nat} {D : DataW H} (h : d.R e w base ok v xs) (hm : w.ownsMap P k R b n D) (hg : w.grownBy w1 (some b)) : d.R e w1 base ok v xs :=
  Kd.R_mono (Kd.R_move (Kd.R_bound h) (fun k hk => hg.block k hk.2.2.1 (fun e => by
    obtain ⟨_, _, _, q, _, cells, hc⟩ := hk
    injection e with e
    exact ownsMap_ne hm hc e.symm))) (fun _ hk => hk.1)
theorem strKeyed : Keyed Tryd.prog 9 := string_keyed Tryd.underlying9
theorem zeroInt (w : World) : (zeroValue 3).run Tryd.prog w = .ok (.int .i64 0) w := by kernel_rfl

/-- A sharer: its nodes, and what is here of them. -/
structure Sh (base Bs Bm : Nat) (ok : Nat → Prop) (v : Value) (out : List S46) (w : World) : Prop where
  hs : base ≤ Bs
  hm : base ≤ Bm
  blk : w.heap[Bs]? = some (.cells #[v, .map (some Bm)] 62 (0, 0))
  row : k46.R 46 w base ok v out
  map : w.ownsMap (H := Unit) Tryd.prog 9 (plainElem Tryd.prog 3) Bm out.length (hereOf out)

theorem Sh.lt {base Bs Bm : Nat} {ok : Nat → Prop} {v : Value} {out : List S46} {w : World} (h : Sh base Bs Bm ok v out w) : Bs < w.heap.size := by
  rcases Nat.lt_or_ge Bs w.heap.size with h' | h'
  · exact h'
  · have := h.blk
    rw [Array.getElem?_eq_none h'] at this
    cases this
theorem Sh.step {base Bs Bm : Nat} {ok : Nat → Prop} {v : Value} {out : List S46} {w w' : World} (h : Sh base Bs Bm ok v out w) (hb : Below w.heap.size w w') : Sh base Bs Bm ok v out w' :=
  ⟨h.hs, h.hm, (hb.block Bs h.lt).trans h.blk, Kd.R_below h.row hb, h.map.kept (grown_of_below hb none) (by simp)⟩
theorem Sh.drew {base Bs Bm : Nat} {ok : Nat → Prop} {v : Value} {out : List S46} {w : World} (h : Sh base Bs Bm ok v out w) : Sh base Bs Bm ok v out w.drew :=
  h.step (below_drew (Below.refl _ _))
theorem Sh.mono {base Bs Bm : Nat} {ok ok' : Nat → Prop} {v : Value} {out : List S46} {w : World} (h : Sh base Bs Bm ok v out w) (hk : ∀ k, ok k → ok' k) : Sh base Bs Bm ok' v out w :=
  ⟨h.hs, h.hm, h.blk, Kd.R_mono h.row hk, h.map⟩
theorem Sh.c0 {base Bs Bm : Nat} {ok : Nat → Prop} {v : Value} {out : List S46} {w : World} (h : Sh base Bs Bm ok v out w) : w.cell? ⟨Bs, 0, none⟩ = some v := by rw [cell_of_row _ Bs 0 _ _ _ h.blk]; rfl
theorem Sh.c1 {base Bs Bm : Nat} {ok : Nat → Prop} {v : Value} {out : List S46} {w : World} (h : Sh base Bs Bm ok v out w) : w.cell? ⟨Bs, 1, none⟩ = some (.map (some Bm)) := by rw [cell_of_row _ Bs 1 _ _ _ h.blk]; rfl
theorem Sh.f0 {base Bs Bm : Nat} {ok : Nat → Prop} {v : Value} {out : List S46} {w : World} (h : Sh base Bs Bm ok v out w) : w.frozen? ⟨Bs, 0, none⟩ = false := by simp [World.frozen?, h.blk]

theorem Sh.bm {base Bs Bm : Nat} {ok : Nat → Prop} {v : Value} {out : List S46} {w : World} (h : Sh base Bs Bm ok v out w) : Bm ≠ Bs := ownsMap_ne h.map h.blk
theorem Sh.vs {base Bs Bm : Nat} {ok : Nat → Prop} {v : Value} {out : List S46} {w : World} (h : Sh base Bs Bm ok v out w) : some Bs ≠ v.ownBlock := Kd.R_ne h.row h.blk (by decide)
theorem Sh.vm {base Bs Bm : Nat} {ok : Nat → Prop} {v : Value} {out : List S46} {w : World} (h : Sh base Bs Bm ok v out w) : some Bm ≠ v.ownBlock := by
  intro e
  obtain ⟨inner, ho⟩ := Kd.R_own h.row
  obtain ⟨cells, hc⟩ := own_typed ho Bm e.symm
  exact ownsMap_ne h.map hc rfl

/-- What the sharer may turn. -/
def Own3 (Bs Bm : Nat) (v : Value) : Nat → Prop := fun b => b = Bs ∨ b = Bm ∨ some b = v.ownBlock
/-- The nodes behind put. -/
def PutPost (base Bs Bm : Nat) (ok : Nat → Prop) (v : Value) (out : List S46) (i : Nat) (w : World) (e : Ending) (w' : World) : Prop :=
  ∃ v', e = .returned (.int .i64 (i : Int)) ∧ Sh base Bs Bm ok v' out w' ∧ Moved (Own3 Bs Bm v) w w' ∧ (v'.ownBlock = v.ownBlock ∨ ∃ b, v'.ownBlock = some b ∧ w.heap.size ≤ b)

theorem lit_inj {a b : Int} (h : (DataW.lit (.int .i64 a) : DataW Unit) = .lit (.int .i64 b)) : a = b := by
  injection h with h
  injection h
theorem keyOf_txt (n : S46) (h : (txt n).length ≤ maxLen) : keyOf Tryd.prog 9 (.string ⟨(txt n).toArray⟩) = some (keyLit n) := by
  have := keyOf_string_mk (P := Tryd.prog) Tryd.underlying9 (s := ⟨(txt n).toArray⟩) (by simpa [ByteArray.size] using h)
  rw [this]
  simp [keyLit]
theorem txt_len {n : S46} (h : Plainly n) : (txt n).length ≤ maxLen := by
  obtain ⟨⟨a0, a1⟩, ⟨b0, b1⟩, h64, hk⟩ := h
  have h1 := itoa_len _ a0 a1
  have h2 := itoa_len _ b0 b1
  have h3 := kidTxt_len n.f2 hk
  unfold txt headTxt maxLen
  simp only [List.length_append, List.length_cons]
  omega

set_option maxHeartbeats 2000000 in
set_option maxRecDepth 100000 in
/-- A node that is there is found. -/
theorem put_there (base Bs Bm : Nat) (ok : Nat → Prop) (v : Value) (out : List S46) (n : S46) (i : Nat) (A : Option Addr) (c : Nat) (w : World) (hs : Sh base Bs Bm ok v out w) (hp : Plainly n) (hpo : ∀ m ∈ out, Plainly m) (hnd : out.Nodup)
    (hr : (Kd.int .i64).C w A n.f2.length n.f2) (hc : n.f2.length ≤ c) (ht : Tab w) (hi : out[i]? = some n) (hlen : out.length ≤ 100000000000) :
    Calls Tryd.prog 36 #[.pointer (some ⟨Bs, 0, none⟩), .agg #[.int .i64 n.f0, .int .i64 n.f1, .slice A n.f2.length c]] w (PutPost base Bs Bm ok v out i w) := by
  have hat := hereOf_hit (.lit (.int .i64 0)) _ out rfl hpo hnd i n hi
  have hi1 : i < out.length := (List.getElem?_eq_some_iff.1 hi).1
  have hne : (((i : Int) + 1) == 0) = false := beq_eq_false_iff_ne.2 (by omega)
  have hkey := keyOf_txt n (txt_len hp)
  have hb0 := below_alloc (Below.refl w.heap.size w) (.cells #[.int .i64 n.f0, .int .i64 n.f1, .slice A n.f2.length c] 46)
  have HS := Lib.hid hs
  have HR := Lib.hid hr
  have HT := Lib.hid ht
  have HP := Lib.hid hp
  have HAT := Lib.hid hat
  have HKEY := Lib.hid hkey
  have HB0 := Lib.hid hb0
  clear hs hr ht hp hat hkey hpo hnd hi hb0
  go_enter Tryd.func36, Tryd.ntmps36
  go_wp2_with fail
  refine (text_any n A c _ HP.out (Kd.C_below HR.out HB0.out) hc (HT.out.later (Nat.le_refl _) HB0.out)).mono ?_
  rintro e w1 ⟨rfl, hb1⟩
  have hbw : Below w.heap.size w w1 := HB0.out.trans (hb1.mono (by simp))
  have HS1 := Lib.hid (HS.out.step hbw)
  have HBW := Lib.hid hbw
  have hc1 := HS1.out.c1
  clear hb1 hbw
  go_wp2_with (at_lookup; refine wpList_lookup_own_int _ rfl _ _ 60 rfl 9 3 .i64 strKeyed Tryd.underlying60 Tryd.underlying3 (zeroInt _) Bm out.length (hereOf out) rfl HS1.out.map _ _ rfl HKEY.out ?_; intro q hat hwc; obtain rfl : (i : Int) + 1 = q := lit_inj (HAT.out.symm.trans hat); clear hat hwc)
  go_ret
  exact ⟨v, rfl, HS1.out, Moved.of_below _ HBW.out, .inl rfl⟩

set_option maxHeartbeats 4000000 in
set_option maxRecDepth 100000 in
/-- A node that is not there is laid behind the others. -/
theorem put_new (base Bs Bm : Nat) (ok : Nat → Prop) (v : Value) (out : List S46) (n : S46) (kv : Value) (w : World) (hs : Sh base Bs Bm ok v out w) (hfresh : ∀ k, w.heap.size ≤ k → ok k) (hbase : base ≤ w.heap.size) (hp : Plainly n) (hpo : ∀ m ∈ out, Plainly m)
    (hkv : (Kd.int .i64).R 3 w base ok kv n.f2) (ht : Tab w) (hno : n ∉ out) (hlen : out.length ≤ 100000000000) :
    Calls Tryd.prog 36 #[.pointer (some ⟨Bs, 0, none⟩), .agg #[.int .i64 n.f0, .int .i64 n.f1, kv]] w (PutPost base Bs Bm ok v (out ++ [n]) out.length w) := by
  obtain ⟨A, c, rfl, hc, hr⟩ := Kd.R_reads hkv
  have hat := hereOf_miss n hp (.lit (.int .i64 0)) _ out rfl hpo hno
  have hkey := keyOf_txt n (txt_len hp)
  have hb0 := below_alloc (Below.refl w.heap.size w) (.cells #[.int .i64 n.f0, .int .i64 n.f1, .slice A n.f2.length c] 46)
  have hx0 : (w.alloc (.cells #[.int .i64 n.f0, .int .i64 n.f1, .slice A n.f2.length c] 46)).heap[w.heap.size]? = some (.cells #[.int .i64 n.f0, .int .i64 n.f1, .slice A n.f2.length c] 46 (0, 0)) := heap_alloc_new w _
  have HS := Lib.hid hs
  have HR := Lib.hid hr
  have HT := Lib.hid ht
  have HP := Lib.hid hp
  have HAT := Lib.hid hat
  have HKEY := Lib.hid hkey
  have HB0 := Lib.hid hb0
  have HX0 := Lib.hid hx0
  have HKV := Lib.hid hkv
  have HF := Lib.hid hfresh
  clear hs hr ht hp hat hkey hpo hno hb0 hx0 hkv hfresh
  go_enter Tryd.func36, Tryd.ntmps36
  go_wp2_with fail
  refine (text_any n A c _ HP.out (Kd.C_below HR.out HB0.out) hc (HT.out.later (Nat.le_refl _) HB0.out)).mono ?_
  rintro e w1 ⟨rfl, hb1⟩
  have hbw : Below w.heap.size w w1 := HB0.out.trans (hb1.mono (by simp))
  have hx1 : w1.heap[w.heap.size]? = some (.cells #[.int .i64 n.f0, .int .i64 n.f1, .slice A n.f2.length c] 46 (0, 0)) := (hb1.block _ (by simp)).trans HX0.out
  have hz1 : w.heap.size + 1 ≤ w1.heap.size := by have := hb1.size; simp at this; exact this
  have HS1 := Lib.hid (HS.out.step hbw)
  have HKV1 := Lib.hid (Kd.R_below HKV.out hbw)
  have HBW := Lib.hid hbw
  have HX1 := Lib.hid hx1
  have hc1 := HS1.out.c1
  clear hb1 hbw hx1
  go_wp2_with (at_lookup; refine wpList_lookup_own_int _ rfl _ _ 60 rfl 9 3 .i64 strKeyed Tryd.underlying60 Tryd.underlying3 (zeroInt _) Bm out.length (hereOf out) rfl HS1.out.map _ _ rfl HKEY.out ?_; intro q hat hwc; obtain rfl : (0 : Int) = q := lit_inj (HAT.out.symm.trans hat); clear hat hwc)
  have HS2 := Lib.hid HS1.out.drew
  have HKV2 := Lib.hid (Kd.R_below HKV1.out (below_drew (Below.refl _ _)))
  have HBW2 := Lib.hid (below_drew HBW.out)
  have HX2 := Lib.hid (show w1.drew.heap[w.heap.size]? = _ from HX1.out)
  have hz2 : w.heap.size + 1 ≤ w1.drew.heap.size := hz1
  have hcs0 := HS2.out.c0
  have hcs1 := HS2.out.c1
  have hcx0 : w1.drew.cell? ⟨w.heap.size, 0, none⟩ = some (.int .i64 n.f0) := by rw [cell_of_row _ _ 0 _ _ _ HX2.out]; rfl
  have hcx1 : w1.drew.cell? ⟨w.heap.size, 1, none⟩ = some (.int .i64 n.f1) := by rw [cell_of_row _ _ 1 _ _ _ HX2.out]; rfl
  have hcx2 : w1.drew.cell? ⟨w.heap.size, 2, none⟩ = some (.slice A n.f2.length c) := by rw [cell_of_row _ _ 2 _ _ _ HX2.out]; rfl
  clear HS1 HKV1 HBW HX1 hz1 hc1
  refine start_ (n := 11) (S := fun w' => w'.cell? ⟨Bs, 0, none⟩ = some v ∧ w'.cell? ⟨w.heap.size, 0, none⟩ = some (.int .i64 n.f0) ∧ w'.cell? ⟨w.heap.size, 1, none⟩ = some (.int .i64 n.f1) ∧ w'.cell? ⟨w.heap.size, 2, none⟩ = some (.slice A n.f2.length c)) (ds := [10]) #[false, false, false, false, false, false, false, false, false, false, false] (by kernel_rfl) rfl rfl ⟨hcs0, hcx0, hcx1, hcx2⟩ (fun hHeld => ?_)
  generalize w1.drew = w2 at HS2 HKV2 HBW2 HX2 hz2 hcs0 hcs1 hcx0 hcx1 hcx2 hHeld ⊢
  refine pure_ (i := 0) (N := some 15) (v := ?_) (a' := ?_) #[true, false, false, false, false, false, false, false, false, false, false] rfl rfl (by kernel_rfl) (fun _ _ _ h => h) (Or.inl ⟨by rfl, ?_⟩) ?_ ?_
  rotate_left
  · intro w'
    go_simp
    with_reducible rfl
  rotate_left
  · simp only [Act.put, List.setIfInBounds_toArray, List.set_cons_zero, List.set_cons_succ, i64_w, i32_w]
    rfl
  refine pure_ (i := 1) (N := some 16) (v := ?_) (a' := ?_) #[true, true, false, false, false, false, false, false, false, false, false] rfl rfl (by kernel_rfl) (fun _ _ _ h => h) (Or.inl ⟨by rfl, ?_⟩) ?_ ?_
  rotate_left
  · intro w'
    go_simp
    with_reducible rfl
  rotate_left
  · simp only [Act.put, List.setIfInBounds_toArray, List.set_cons_zero, List.set_cons_succ, i64_w, i32_w]
    rfl
  refine pure_ (i := 2) (N := some 17) (v := ?_) (a' := ?_) #[true, true, true, false, false, false, false, false, false, false, false] rfl rfl (by kernel_rfl) (fun _ _ _ h => h) (Or.inl ⟨by rfl, ?_⟩) ?_ ?_
  rotate_left
  · intro w'
    go_simp
    with_reducible rfl
  rotate_left
  · simp only [Act.put, List.setIfInBounds_toArray, List.set_cons_zero, List.set_cons_succ, i64_w, i32_w]
    rfl
  refine pure_ (i := 3) (N := some 18) (v := ?_) (a' := ?_) #[true, true, true, true, false, false, false, false, false, false, false] rfl rfl (by kernel_rfl) (fun _ _ _ h => h) (Or.inl ⟨by rfl, ?_⟩) ?_ ?_
  rotate_left
  · intro w'
    go_simp
    with_reducible rfl
  rotate_left
  · simp only [Act.put, List.setIfInBounds_toArray, List.set_cons_zero, List.set_cons_succ, i64_w, i32_w]
    rfl
  refine take_ (i := 4) (N := some 19) (v := ?_) (a' := ?_) #[true, true, true, true, true, false, false, false, false, false, false] rfl rfl (by kernel_rfl) (fun _ _ _ h => h) (Or.inl ⟨by rfl, ?_⟩) hHeld ?_ ?_
  rotate_left
  · rintro w' ⟨s0, s1, s2, s3⟩
    go_simp
    with_reducible rfl
  rotate_left
  · simp only [Act.put, List.setIfInBounds_toArray, List.set_cons_zero, List.set_cons_succ, i64_w, i32_w]
    rfl
  refine take_ (i := 5) (N := some 20) (v := ?_) (a' := ?_) #[true, true, true, true, true, true, false, false, false, false, false] rfl rfl (by kernel_rfl) (fun _ _ _ h => h) (Or.inl ⟨by rfl, ?_⟩) hHeld ?_ ?_
  rotate_left
  · rintro w' ⟨s0, s1, s2, s3⟩
    go_simp
    with_reducible rfl
  rotate_left
  · simp only [Act.put, List.setIfInBounds_toArray, List.set_cons_zero, List.set_cons_succ, i64_w, i32_w]
    rfl
  refine one_ (i := 6) (N := some 21) #[true, true, true, true, true, true, true, false, false, false, false] rfl rfl (by kernel_rfl) (by decide) (fun K hK => ?_)
  refine event_step (w1 := w2.alloc (.cells #[.int .i64 n.f0, .int .i64 n.f1, .slice A n.f2.length c] 46)) (v := .slice (some ⟨w2.heap.size, 0, none⟩) 1 1) (by rfl) (by go_simp) ?_
  have hb3 := below_alloc (Below.refl w2.heap.size w2) (.cells #[.int .i64 n.f0, .int .i64 n.f1, .slice A n.f2.length c] 46)
  have hcs0' := pw_cell_below hb3 hcs0
  have hcx0' := pw_cell_below hb3 hcx0
  have hcx1' := pw_cell_below hb3 hcx1
  have hcx2' := pw_cell_below hb3 hcx2
  refine hK.out _ _ ⟨hcs0', hcx0', hcx1', hcx2'⟩ (fun hHeld => ?_)
  clear hK K
  refine norm_ (a' := ?_) ?_ ?_
  rotate_left
  · show Act.put _ (some 21) _ = _
    simp only [Act.put, List.setIfInBounds_toArray, List.set_cons_zero, List.set_cons_succ, i64_w, i32_w]
    try rfl
  refine one_ (i := 7) (N := some 22) #[true, true, true, true, true, true, true, true, false, false, false] rfl rfl (by kernel_rfl) (by decide) (fun K hK => ?_)
  refine Kd.R_append_step k46 (w0 := w) base (by rfl) (.tmp 19) (.tmp 21) 23 46 _ 40 rfl Tryd.underlying23 info46 rfl (by decide) (by omega) v out n [.int .i64 n.f0, .int .i64 n.f1, .slice A n.f2.length c] ok (fun k => ok k ∧ some k ≠ v.ownBlock) rfl rfl ?hp (fun _ hk => hk) ?hf HS2.out.row ?hB ?hb ?hl ?_
  case hp => exact k46_mkM _ _ _ n (R_apart HKV2.out HS2.out.row)
  case hf => exact fun k hk => HF.out k (by omega)
  case hB => exact HBW2.out.mono hbase
  case hb => omega
  case hl => omega
  intro v1 w4 hO4 hB4 hg4 hat4
  obtain ⟨A1, c1, rfl⟩ := Kd.R_slice hO4
  have hblk4 : w4.heap[Bs]? = some (.cells #[v, .map (some Bm)] 62 (0, 0)) := (hg4.block Bs HS2.out.lt HS2.out.vs).trans HS2.out.blk
  have hx4 : w4.heap[w.heap.size]? = some (.cells #[.int .i64 n.f0, .int .i64 n.f1, .slice A n.f2.length c] 46 (0, 0)) := (hg4.block _ (by omega) (fun e => by
    have := Kd.R_lt HS.out.row _ e.symm
    omega)).trans HX2.out
  have hmap4 := HS2.out.map.kept hg4 HS2.out.vm
  have hcs4 : w4.cell? ⟨Bs, 0, none⟩ = some v := by rw [cell_of_row _ _ 0 _ _ _ hblk4]; rfl
  have hfs4 : w4.frozen? ⟨Bs, 0, none⟩ = false := by simp [World.frozen?, hblk4]
  have hcx40 : w4.cell? ⟨w.heap.size, 0, none⟩ = some (.int .i64 n.f0) := by rw [cell_of_row _ _ 0 _ _ _ hx4]; rfl
  have hcx41 : w4.cell? ⟨w.heap.size, 1, none⟩ = some (.int .i64 n.f1) := by rw [cell_of_row _ _ 1 _ _ _ hx4]; rfl
  have hcx42 : w4.cell? ⟨w.heap.size, 2, none⟩ = some (.slice A n.f2.length c) := by rw [cell_of_row _ _ 2 _ _ _ hx4]; rfl
  refine hK.out _ _ ⟨hcs4, hcx40, hcx41, hcx42⟩ (fun hHeld => ?_)
  clear hK K
  refine norm_ (a' := ?_) ?_ ?_
  rotate_left
  · show Act.put _ (some 22) _ = _
    simp only [Act.put, List.setIfInBounds_toArray, List.set_cons_zero, List.set_cons_succ, i64_w, i32_w]
    try rfl
  refine pure_ (i := 8) (N := some 23) (v := ?_) (a' := ?_) #[true, true, true, true, true, true, true, true, true, false, false] rfl rfl (by kernel_rfl) (fun _ _ _ h => h) (Or.inl ⟨by rfl, ?_⟩) ?_ ?_
  rotate_left
  · intro w'
    go_simp
    with_reducible rfl
  rotate_left
  · simp only [Act.put, List.setIfInBounds_toArray, List.set_cons_zero, List.set_cons_succ, i64_w, i32_w]
    rfl
  refine pure_ (i := 9) (N := some 24) (v := ?_) (a' := ?_) #[true, true, true, true, true, true, true, true, true, true, false] rfl rfl (by kernel_rfl) (fun _ _ _ h => h) (Or.inl ⟨by rfl, ?_⟩) ?_ ?_
  rotate_left
  · intro w'
    go_simp
    with_reducible rfl
  rotate_left
  · simp only [Act.put, List.setIfInBounds_toArray, List.set_cons_zero, List.set_cons_succ, i64_w, i32_w]
    rfl
  refine last_ (i := 10) (N := none) #[true, true, true, true, true, true, true, true, true, true, true] rfl rfl (by kernel_rfl) (by decide) (fun K hK => ?_)
  refine skip_step (w1 := w4.setCell ⟨Bs, 0, none⟩ (.slice A1 (out ++ [n]).length c1)) (by rfl) (by go_simp) ?_
  refine hK.out _ _ ?_
  clear hK K
  refine norm_ (a' := ?_) ?_ ?_
  rotate_left
  · show Act.put _ none _ = _
    simp only [Act.put, List.setIfInBounds_toArray, List.set_cons_zero, List.set_cons_succ, i64_w, i32_w]
    try rfl
  refine done_ (by kernel_rfl) ?_
  have hblk5 : (w4.setCell ⟨Bs, 0, none⟩ (.slice A1 (out ++ [n]).length c1)).heap[Bs]? = some (.cells #[.slice A1 (out ++ [n]).length c1, .map (some Bm)] 62 (0, 0)) := by
    simp [World.setCell, Array.getElem?_modify, hblk4]
  have hrow5 := Kd.R_set hO4 hblk4 (by decide) 0 (.slice A1 (out ++ [n]).length c1)
  have hmap5 := hmap4.kept (grown_setCell w4 ⟨Bs, 0, none⟩ (.slice A1 (out ++ [n]).length c1)) (by simpa using HS.out.bm)
  have hmv5 : Moved (Own3 Bs Bm v) w (w4.setCell ⟨Bs, 0, none⟩ (.slice A1 (out ++ [n]).length c1)) :=
    ((Moved.of_below _ HBW2.out).trans (Moved.of_grown hg4 fun i hi => .inr (.inr hi.symm))).setCell (p := ⟨Bs, 0, none⟩) (.inl rfl) _
  have hat5 : (Value.slice A1 (out ++ [n]).length c1).ownBlock = v.ownBlock ∨ ∃ b, (Value.slice A1 (out ++ [n]).length c1).ownBlock = some b ∧ w.heap.size ≤ b := by
    rcases hat4 with h | ⟨b, h1, h2⟩
    · exact .inl h
    · exact .inr ⟨b, h1, by omega⟩
  generalize w4.setCell ⟨Bs, 0, none⟩ (.slice A1 (out ++ [n]).length c1) = w5 at hblk5 hrow5 hmap5 hmv5 ⊢
  clear hO4 hB4 hg4 hat4 hblk4 hx4 hmap4 hcs4 hfs4 hcx40 hcx41 hcx42 hcs0' hcx0' hcx1' hcx2' hcs0 hcs1 hcx0 hcx1 hcx2 hb3 HS2 HKV2 HX2 hz2 HBW2
  have HBLK := Lib.hid hblk5
  have HROW := Lib.hid hrow5
  have HMAP := Lib.hid hmap5
  have HMV := Lib.hid hmv5
  have HAT5 := Lib.hid hat5
  clear hblk5 hrow5 hmap5 hmv5 hat5
  go_wp2_with fail
  have hd0 : w5.drew.cell? ⟨Bs, 0, none⟩ = some (.slice A1 (out ++ [n]).length c1) := by
    have h : w5.drew.heap[Bs]? = some (.cells #[.slice A1 (out ++ [n]).length c1, .map (some Bm)] 62 (0, 0)) := HBLK.out
    rw [cell_of_row _ _ 0 _ _ _ h]; rfl
  have hd1 : w5.drew.cell? ⟨Bs, 1, none⟩ = some (.map (some Bm)) := by
    have h : w5.drew.heap[Bs]? = some (.cells #[.slice A1 (out ++ [n]).length c1, .map (some Bm)] 62 (0, 0)) := HBLK.out
    rw [cell_of_row _ _ 1 _ _ _ h]; rfl
  refine start_ (n := 11) (S := fun w' => w'.cell? ⟨Bs, 1, none⟩ = some (.map (some Bm)) ∧ w'.cell? ⟨Bs, 0, none⟩ = some (.slice A1 (out ++ [n]).length c1)) (ds := [10]) #[false, false, false, false, false, false, false, false, false, false, false] (by kernel_rfl) rfl rfl ⟨hd1, hd0⟩ (fun hHeld => ?_)
  refine pure_ (i := 0) (N := some 25) (v := ?_) (a' := ?_) #[true, false, false, false, false, false, false, false, false, false, false] rfl rfl (by kernel_rfl) (fun _ _ _ h => h) (Or.inl ⟨by rfl, ?_⟩) ?_ ?_
  rotate_left
  · intro w'
    go_simp
    with_reducible rfl
  rotate_left
  · simp only [Act.put, List.setIfInBounds_toArray, List.set_cons_zero, List.set_cons_succ, i64_w, i32_w]
    rfl
  refine pure_ (i := 1) (N := some 26) (v := ?_) (a' := ?_) #[true, true, false, false, false, false, false, false, false, false, false] rfl rfl (by kernel_rfl) (fun _ _ _ h => h) (Or.inl ⟨by rfl, ?_⟩) ?_ ?_
  rotate_left
  · intro w'
    go_simp
    with_reducible rfl
  rotate_left
  · simp only [Act.put, List.setIfInBounds_toArray, List.set_cons_zero, List.set_cons_succ, i64_w, i32_w]
    rfl
  refine pure_ (i := 2) (N := some 27) (v := ?_) (a' := ?_) #[true, true, true, false, false, false, false, false, false, false, false] rfl rfl (by kernel_rfl) (fun _ _ _ h => h) (Or.inl ⟨by rfl, ?_⟩) ?_ ?_
  rotate_left
  · intro w'
    go_simp
    with_reducible rfl
  rotate_left
  · simp only [Act.put, List.setIfInBounds_toArray, List.set_cons_zero, List.set_cons_succ, i64_w, i32_w]
    rfl
  refine pure_ (i := 4) (N := some 29) (v := ?_) (a' := ?_) #[true, true, true, false, true, false, false, false, false, false, false] rfl rfl (by kernel_rfl) (fun _ _ _ h => h) (Or.inl ⟨by rfl, ?_⟩) ?_ ?_
  rotate_left
  · intro w'
    go_simp
    with_reducible rfl
  rotate_left
  · simp only [Act.put, List.setIfInBounds_toArray, List.set_cons_zero, List.set_cons_succ, i64_w, i32_w]
    rfl
  refine pure_ (i := 5) (N := some 30) (v := ?_) (a' := ?_) #[true, true, true, false, true, true, false, false, false, false, false] rfl rfl (by kernel_rfl) (fun _ _ _ h => h) (Or.inl ⟨by rfl, ?_⟩) ?_ ?_
  rotate_left
  · intro w'
    go_simp
    with_reducible rfl
  rotate_left
  · simp only [Act.put, List.setIfInBounds_toArray, List.set_cons_zero, List.set_cons_succ, i64_w, i32_w]
    rfl
  refine pure_ (i := 6) (N := some 31) (v := ?_) (a' := ?_) #[true, true, true, false, true, true, true, false, false, false, false] rfl rfl (by kernel_rfl) (fun _ _ _ h => h) (Or.inl ⟨by rfl, ?_⟩) ?_ ?_
  rotate_left
  · intro w'
    go_simp
    with_reducible rfl
  rotate_left
  · simp only [Act.put, List.setIfInBounds_toArray, List.set_cons_zero, List.set_cons_succ, i64_w, i32_w]
    rfl
  refine pure_ (i := 7) (N := some 32) (v := ?_) (a' := ?_) #[true, true, true, false, true, true, true, true, false, false, false] rfl rfl (by kernel_rfl) (fun _ _ _ h => h) (Or.inl ⟨by rfl, ?_⟩) ?_ ?_
  rotate_left
  · intro w'
    go_simp
    with_reducible rfl
  rotate_left
  · simp only [Act.put, List.setIfInBounds_toArray, List.set_cons_zero, List.set_cons_succ, i64_w, i32_w]
    rfl
  refine take_ (i := 3) (N := some 28) (v := ?_) (a' := ?_) #[true, true, true, true, true, true, true, true, false, false, false] rfl rfl (by kernel_rfl) (fun _ _ _ h => h) (Or.inl ⟨by rfl, ?_⟩) hHeld ?_ ?_
  rotate_left
  · rintro w' ⟨s0, s1⟩
    go_simp
    with_reducible rfl
  rotate_left
  · simp only [Act.put, List.setIfInBounds_toArray, List.set_cons_zero, List.set_cons_succ, i64_w, i32_w]
    rfl
  refine take_ (i := 8) (N := some 33) (v := ?_) (a' := ?_) #[true, true, true, true, true, true, true, true, true, false, false] rfl rfl (by kernel_rfl) (fun _ _ _ h => h) (Or.inl ⟨by rfl, ?_⟩) hHeld ?_ ?_
  rotate_left
  · rintro w' ⟨s0, s1⟩
    go_simp
    with_reducible rfl
  rotate_left
  · simp only [Act.put, List.setIfInBounds_toArray, List.set_cons_zero, List.set_cons_succ, i64_w, i32_w]
    rfl
  refine pure_ (i := 9) (N := some 34) (v := ?_) (a' := ?_) #[true, true, true, true, true, true, true, true, true, true, false] rfl rfl (by kernel_rfl) (fun _ _ _ h => h) (Or.inl ⟨by rfl, ?_⟩) ?_ ?_
  rotate_left
  · intro w'
    go_simp
    with_reducible rfl
  rotate_left
  · simp only [Act.put, List.setIfInBounds_toArray, List.set_cons_zero, List.set_cons_succ, i64_w, i32_w]
    rfl
  refine last_ (i := 10) (N := none) #[true, true, true, true, true, true, true, true, true, true, true] rfl rfl (by kernel_rfl) (by decide) (fun K hK => ?_)
  refine mapUpdate_step _ (by rfl) (.tmp 28) (.tmp 29) (.tmp 34) 60 rfl 9 3 strKeyed Tryd.underlying60 (plainElem Tryd.prog 3) Bm out.length (hereOf out) rfl (HMAP.out.kept (row := none) (grown_of_below (below_drew (Below.refl _ _)) none) (by simp)) (by unfold maxLen; omega) (.string ⟨(txt n).toArray⟩) (.int .i64 (out.length + 1)) (keyLit n) rfl (by simp [Act.eval]) HKEY.out (.lit (.int .i64 ((out.length : Int) + 1))) [] (plainElem_int Tryd.underlying3 (WalkArith.wf_i64 (by omega))) ?_
  intro w6 hmap6 hg6
  refine hK.out _ _ ?_
  clear hK K
  refine norm_ (a' := ?_) ?_ ?_
  rotate_left
  · show Act.put _ none _ = _
    simp only [Act.put, List.setIfInBounds_toArray, List.set_cons_zero, List.set_cons_succ, i64_w, i32_w]
    try rfl
  refine done_ (by kernel_rfl) ?_
  have hmapd := HMAP.out.kept (row := none) (grown_of_below (below_drew (Below.refl _ w5)) none) (by simp)
  have hbmlt := hmapd.lt
  have hblk6 : w6.heap[Bs]? = some (.cells #[.slice A1 (out ++ [n]).length c1, .map (some Bm)] 62 (0, 0)) := (hg6.block Bs (blk_lt HBLK.out) (by simpa using HS.out.bm.symm)).trans HBLK.out
  have hrow6 := R_map (Kd.R_below HROW.out (below_drew (Below.refl _ w5))) hmapd hg6
  have hmv6 : Moved (Own3 Bs Bm v) w w6 := (HMV.out.trans (Moved.of_below _ (below_drew (Below.refl _ w5)))).trans (Moved.of_grown hg6 fun i hi => .inr (.inl (by injection hi with hi; exact hi.symm)))
  have hat2 := Maps.atKey_put_same (hereOf_isMap out) (key_is n) (.lit (.int .i64 ((out.length : Int) + 1))) (.lit (.int .i64 0))
  rw [← hereOf_snoc] at hmap6 hat2
  have hsh6 : Sh base Bs Bm ok (.slice A1 (out ++ [n]).length c1) (out ++ [n]) w6 := ⟨HS.out.hs, HS.out.hm, hblk6, hrow6, by simpa using hmap6⟩
  clear HBLK HROW HMAP HMV hmapd hbmlt hblk6 hrow6 hmap6 hg6 hd0 hd1
  have HSH := Lib.hid hsh6
  have HMV := Lib.hid hmv6
  have HAT2 := Lib.hid hat2
  have hc61 := HSH.out.c1
  clear hsh6 hmv6 hat2
  go_wp2_with (at_lookup; refine wpList_lookup_own_int _ rfl _ _ 60 rfl 9 3 .i64 strKeyed Tryd.underlying60 Tryd.underlying3 (zeroInt _) Bm (out ++ [n]).length (hereOf (out ++ [n])) rfl HSH.out.map _ _ rfl HKEY.out ?_; intro q hat hwc; obtain rfl : (out.length : Int) + 1 = q := lit_inj (HAT2.out.symm.trans hat); clear hat hwc)
  go_ret
  exact ⟨_, rfl, HSH.out, HMV.out, HAT5.out⟩
end Go.Proofs.YtlgnogpjmdhflaaDoor
