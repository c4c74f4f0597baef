/- walk of tree's sharer at a node that is not in yet. -/
import Derived.Test.YtlgnogpjmdhflaaDoorTreeG
namespace Go.Proofs.YtlgnogpjmdhflaaDoor
open Go.RowKit Go.Proofs.YtlgnogpjmdhflaaDoorW.PrintWords Go.Proofs.YtlgnogpjmdhflaaDoorW.PrintLast Go.Proofs.YtlgnogpjmdhflaaDoorW.PrintMore Go.Proofs.YtlgnogpjmdhflaaDoor.PRef Go.Maps
set_option linter.unusedVariables false
set_option linter.unusedSimpArgs false

theorem rd_set (xs : List Int) (q j : Nat) (x : Int) (hq : q < xs.length) : rd (xs.set q x) j = if j = q then x else rd xs j := by
  unfold rd
  simp only [List.getD_eq_getElem?_getD, Int.toNat_natCast, List.getElem?_set]
  by_cases h : q = j
  · subst h; simp [hq]
  · rw [if_neg h, if_neg (fun e => h e.symm)]
theorem DoneOk.set {l out out2 : List S46} {dones : List Int} (h : DoneOk l out dones) (hp : nds out <+: nds out2) (hm : TM.Mays (nds out)) {q i : Nat} (hq : q < l.length) (hi : i < out2.length) (e : TM.T (nds out2) i = TM.T (nds l) q) : DoneOk l out2 (dones.set q ((i : Int) + 1)) := by
  obtain ⟨h1, h2⟩ := h
  have hlen := hp.length_le
  rw [nds_length, nds_length] at hlen
  refine ⟨by rw [List.length_set]; exact h1, fun j hj => ?_⟩
  rw [rd_set dones q j _ (by omega)]
  by_cases hjq : j = q
  · subst hjq
    rw [if_pos rfl]
    refine ⟨by omega, by omega, fun _ => ?_⟩
    rw [show (((i : Int) + 1).toNat - 1) = i from by omega]
    exact e
  · rw [if_neg hjq]
    obtain ⟨a, b, c⟩ := h2 j hj
    refine ⟨a, by omega, fun hpos => ?_⟩
    rw [← c hpos]
    exact TM.prefix_T hm hp (by rw [nds_length]; omega)
theorem DoneOk.more {l out out2 : List S46} {dones : List Int} (h : DoneOk l out dones) (hp : nds out <+: nds out2) (hm : TM.Mays (nds out)) : DoneOk l out2 dones := by
  obtain ⟨h1, h2⟩ := h
  have hlen := hp.length_le
  rw [nds_length, nds_length] at hlen
  refine ⟨h1, fun j hj => ?_⟩
  obtain ⟨a, b, c⟩ := h2 j hj
  refine ⟨a, by omega, fun hpos => ?_⟩
  rw [← c hpos]
  exact TM.prefix_T hm hp (by rw [nds_length]; omega)

section
variable {base Bs Bm Bd cd : Nat} {ok : Nat → Prop} {l : List S46} {v : Value} {out : List S46} {dones : List Int} {w w' : World}
theorem Sh.moved (h : Sh base Bs Bm ok v out w) {S : Nat → Prop} (hm : Moved S w w') (hk : ∀ k, ok k → ¬ S k) (hs : ¬ S Bs) (hb : ¬ S Bm) : Sh base Bs Bm ok v out w' := by
  refine ⟨h.hs, h.hm, (hm.block Bs h.lt hs).trans h.blk, Kd.R_step h.row (fun k ho hlt => hm.block k hlt (hk k ho)), ?_⟩
  obtain ⟨es, clock, hbb, r⟩ := h.map
  exact ⟨es, clock, (hm.block Bm (blk_lt hbb) hb).trans hbb, r⟩
theorem Ws.moved (h : Ws base Bs Bm Bd cd ok l v out dones w) {S : Nat → Prop} (hm : Moved S w w') (hk : ∀ k, ok k → ¬ S k) (hs : ¬ S Bs) (hb : ¬ S Bm) (hd : ¬ S Bd) : Ws base Bs Bm Bd cd ok l v out dones w' :=
  ⟨h.sh.moved hm hk hs hb, own_move h.dn (fun k hk' => by
    have : Bd = k := by simpa [Value.ownBlock] using hk'
    subst this
    exact hm.block Bd h.bd.2.1 hd), h.dk, h.good, h.okd⟩
theorem Ws.mono {ok' : Nat → Prop} (h : Ws base Bs Bm Bd cd ok l v out dones w) (hk : ∀ k, ok k → ok' k) (hd : ∀ k, ok' k → k ≠ Bd) : Ws base Bs Bm Bd cd ok' l v out dones w :=
  ⟨h.sh.mono hk, h.dn, h.dk, h.good, hd⟩
/-- What is there is none of what comes. -/
theorem Ws.bound (h : Ws base Bs Bm Bd cd ok l v out dones w) : Ws base Bs Bm Bd cd (fun k => ok k ∧ k < w.heap.size) l v out dones w :=
  ⟨⟨h.sh.hs, h.sh.hm, h.sh.blk, Kd.R_mono (Kd.R_bound h.sh.row) (fun k hk => ⟨hk.1, hk.2.2.1⟩), h.sh.map⟩, h.dn, h.dk, h.good, fun k hk => h.okd k hk.1⟩
/-- The parts of a state lie in blocks of their own. -/
theorem Ws.apart (h : Ws base Bs Bm Bd cd ok l v out dones w) : Bd ≠ Bs ∧ Bd ≠ Bm ∧ some Bd ≠ v.ownBlock := by
  obtain ⟨_, _, cells, hc⟩ := h.bd
  refine ⟨?_, fun e => ownsMap_ne h.sh.map hc e.symm, fun e => h.okd Bd (h.sh.row.1 Bd e.symm) rfl⟩
  rintro rfl
  have := h.sh.blk
  rw [hc] at this
  injection this with this
  injection this with _ this
  exact absurd this (by decide)
end

/-- The state between two kids. -/
structure Kj (base Bs Bm Bd cd : Nat) (ok : Nat → Prop) (l : List S46) (v : Value) (w : World) (B9 : Nat) (n0 : S46) (r : List TM.Nd × List Int) (kv v' : Value) (out' : List S46) (dones' : List Int) (wr : World) : Prop where
  ws : Ws base Bs Bm Bd cd (fun k => ok k ∧ k ≠ B9 ∧ some k ≠ kv.ownBlock) l v' out' dones' wr
  box : wr.heap[B9]? = some (.cells #[.int .i64 n0.f0, .int .i64 n0.f1, kv] 46 (0, 0))
  kids : (Kd.int .i64).R 3 wr base ok kv r.2
  r1 : nds out' = r.1
  mv : Moved (Own4 Bs Bm Bd v) w wr
  hat : v'.ownBlock = v.ownBlock ∨ ∃ b, v'.ownBlock = some b ∧ w.heap.size ≤ b
  hz : w.heap.size ≤ B9
  knew : ∀ k, kv.ownBlock = some k → w.heap.size ≤ k
  lts : Bs < w.heap.size ∧ Bm < w.heap.size ∧ Bd < w.heap.size

theorem own4_base {base Bs Bm Bd cd : Nat} {ok : Nat → Prop} {l : List S46} {v : Value} {out : List S46} {dones : List Int} {w : World} (h : Ws base Bs Bm Bd cd ok l v out dones w) : ∀ i, Own4 Bs Bm Bd v i → base ≤ i := by
  rintro i ((rfl | rfl | e) | rfl)
  · exact h.sh.hs
  · exact h.sh.hm
  · exact Kd.R_base h.sh.row i e.symm
  · exact h.bd.1
section
variable {base Bs Bm Bd cd : Nat} {ok : Nat → Prop} {l : List S46} {v : Value} {w : World} {B9 : Nat} {n0 : S46} {r : List TM.Nd × List Int} {kv v' : Value} {out' : List S46} {dones' : List Int} {wr : World}
theorem Kj.step {wr' : World} (h : Kj base Bs Bm Bd cd ok l v w B9 n0 r kv v' out' dones' wr) (hb : Below wr.heap.size wr wr') : Kj base Bs Bm Bd cd ok l v w B9 n0 r kv v' out' dones' wr' :=
  ⟨h.ws.step hb, (hb.block _ (blk_lt h.box)).trans h.box, Kd.R_below h.kids hb, h.r1, h.mv.trans (Moved.of_below _ hb), h.hat, h.hz, h.knew, h.lts⟩
theorem Kj.kc (h : Kj base Bs Bm Bd cd ok l v w B9 n0 r kv v' out' dones' wr) : wr.cell? ⟨B9, 2, none⟩ = some kv := by rw [cell_of_row _ B9 2 _ _ _ h.box]; rfl
theorem Kj.kc2 {w4 : World} (h : Kj base Bs Bm Bd cd ok l v w B9 n0 r kv v' out' dones' wr) (hg : wr.grownBy w4 kv.ownBlock) : w4.cell? ⟨B9, 2, none⟩ = some kv := by
  have hb4 : w4.heap[B9]? = some (.cells #[.int .i64 n0.f0, .int .i64 n0.f1, kv] 46 (0, 0)) := (hg.block B9 (blk_lt h.box) (Kd.R_ne h.kids h.box (by decide))).trans h.box
  rw [cell_of_row _ B9 2 _ _ _ hb4]; rfl
theorem Kj.kf2 {w4 : World} (h : Kj base Bs Bm Bd cd ok l v w B9 n0 r kv v' out' dones' wr) (hg : wr.grownBy w4 kv.ownBlock) : w4.frozen? ⟨B9, 2, none⟩ = false := by
  have hb4 : w4.heap[B9]? = some (.cells #[.int .i64 n0.f0, .int .i64 n0.f1, kv] 46 (0, 0)) := (hg.block B9 (blk_lt h.box) (Kd.R_ne h.kids h.box (by decide))).trans h.box
  simp [World.frozen?, hb4]
theorem Kj.fresh (h : Kj base Bs Bm Bd cd ok l v w B9 n0 r kv v' out' dones' wr) (hf : ∀ k, w.heap.size ≤ k → ok k) : ∀ k, wr.heap.size ≤ k → ok k ∧ k ≠ B9 ∧ some k ≠ kv.ownBlock := fun k hk => by
  refine ⟨hf k (Nat.le_trans h.mv.size hk), ?_, fun e => ?_⟩
  · have := blk_lt h.box; omega
  · have := Kd.R_lt h.kids k e.symm; omega
theorem Kj.called (h : Kj base Bs Bm Bd cd ok l v w B9 n0 r kv v' out' dones' wr) {r2 : List TM.Nd × Nat} {e : Ending} {w2 : World} (hp : WalkPost base Bs Bm Bd cd (fun k => ok k ∧ k ≠ B9 ∧ some k ≠ kv.ownBlock) l v' r2 wr e w2) :
    ∃ v2 out2 dones2, e = .returned (.int .i64 (r2.2 : Int)) ∧ Kj base Bs Bm Bd cd ok l v w B9 n0 (r2.1, r.2) kv v2 out2 dones2 w2 := by
  obtain ⟨v2, out2, dones2, he, hn, hws, hm, hat⟩ := hp
  obtain ⟨l1, l2, l3⟩ := h.lts
  have hz := h.hz
  have hnot : ∀ i, Own4 Bs Bm Bd v' i → w.heap.size ≤ i → some i = v'.ownBlock := by
    rintro i ((rfl | rfl | e) | rfl) hi
    · omega
    · omega
    · exact e
    · omega
  refine ⟨v2, out2, dones2, he, hws, ?_, ?_, hn, ?_, ?_, hz, h.knew, h.lts⟩
  · refine (hm.block B9 (blk_lt h.box) fun hi => ?_).trans h.box
    exact (h.ws.sh.row.1 B9 (hnot B9 hi hz).symm).2.1 rfl
  · have h0 : (Kd.int .i64).R 3 wr base (fun k => ok k ∧ kv.ownBlock = some k) kv r.2 := Kd.R_of_own (Kd.own_of_R h.kids) (fun k hk => ⟨h.kids.1 k hk, hk⟩)
    refine Kd.R_mono (Kd.R_step h0 (fun k ho hlt => hm.block k hlt fun hi => ?_)) (fun k hk => hk.1)
    have h1 := hnot k hi (h.knew k ho.2)
    exact (h.ws.sh.row.1 k h1.symm).2.2 ho.2.symm
  · refine h.mv.trans' hm fun i hi ho => ?_
    rcases h.hat with e | ⟨b, e, hb⟩
    · unfold Own4 Own3 at *; rw [← e]; exact ho
    · rcases ho with (rfl | rfl | e') | rfl
      · exact .inl (.inl rfl)
      · exact .inl (.inr (.inl rfl))
      · rw [e] at e'; injection e' with e'; omega
      · exact .inr rfl
  · have := h.mv.size
    rcases hat with e | ⟨b, e, hb⟩
    · rw [e]; exact h.hat
    · exact .inr ⟨b, e, by omega⟩
theorem Kj.put {w7 w8 : World} (h : Kj base Bs Bm Bd cd ok l v w B9 n0 r kv v' out' dones' wr) (hm : Moved (Own3 Bs Bm v') wr w7) (h8 : Moved (fun i => i = Bd) w7 w8) : Moved (Own4 Bs Bm Bd v) w w8 := by
  have h1 : Moved (Own4 Bs Bm Bd v') wr w8 := (hm.mono fun i _ hi => .inl hi).trans' h8 fun i _ hi => .inr hi
  refine h.mv.trans' h1 fun i hi ho => ?_
  rcases h.hat with e | ⟨b, e, hb⟩
  · unfold Own4 Own3 at *; rw [← e]; exact ho
  · rcases ho with (rfl | rfl | e') | rfl
    · exact .inl (.inl rfl)
    · exact .inl (.inr (.inl rfl))
    · rw [e] at e'; injection e' with e'; omega
    · exact .inr rfl
theorem Kj.grown {r1 : List TM.Nd} {ks ks1 : List Int} (h : Kj base Bs Bm Bd cd ok l v w B9 n0 (r1, ks) kv v' out' dones' wr) {v1 : Value} {w4 : World} (hO : (Kd.int .i64).R 3 w4 base ok v1 ks1) (hg : wr.grownBy w4 kv.ownBlock) (hat : v1.ownBlock = kv.ownBlock ∨ ∃ b, v1.ownBlock = some b ∧ wr.heap.size ≤ b) :
    Kj base Bs Bm Bd cd ok l v w B9 n0 (r1, ks1) v1 v' out' dones' (w4.setCell ⟨B9, 2, none⟩ v1) := by
  obtain ⟨l1, l2, l3⟩ := h.lts
  have hz := h.hz
  have hne := Kd.R_ne h.kids h.box (by decide)
  have hsz := h.mv.size
  have hb4 : w4.heap[B9]? = some (.cells #[.int .i64 n0.f0, .int .i64 n0.f1, kv] 46 (0, 0)) := (hg.block B9 (blk_lt h.box) hne).trans h.box
  have hm : Moved (fun i => i = B9 ∨ some i = kv.ownBlock) wr (w4.setCell ⟨B9, 2, none⟩ v1) := (Moved.of_grown hg fun i hi => .inr hi.symm).setCell (p := ⟨B9, 2, none⟩) (.inl rfl) _
  have hno : ∀ i, i < w.heap.size → ¬ (i = B9 ∨ some i = kv.ownBlock) := by
    rintro i hi (rfl | e)
    · omega
    · have := h.knew i e.symm; omega
  refine ⟨(h.ws.bound.moved hm (fun k hk => ?_) (hno _ l1) (hno _ l2) (hno _ l3)).mono (fun k hk => ⟨hk.1.1, hk.1.2.1, fun e => ?_⟩) (fun k hk e => ?_), ?_, Kd.R_set hO hb4 (by decide) 2 v1, h.r1, h.mv.trans' hm (fun i hi e => absurd e (hno i hi)), h.hat, hz, fun k hk => ?_, h.lts⟩
  · rintro (e | e)
    · exact hk.1.2.1 e
    · exact hk.1.2.2 e
  · rcases hat with h1 | ⟨b, h1, h2⟩
    · rw [h1] at e; exact hk.1.2.2 e
    · rw [h1] at e; injection e with e; have := hk.2; omega
  · subst e
    exact h.ws.okd k ⟨hk.1, hk.2.1, fun e => by have := h.knew k e.symm; omega⟩ rfl
  · simp [World.setCell, Array.getElem?_modify, hb4]
  · rcases hat with h1 | ⟨b, h1, h2⟩
    · exact h.knew k (h1 ▸ hk)
    · rw [h1] at hk; injection hk with hk; omega
end

theorem put_prefix (out : List TM.Nd) (n : TM.Nd) : out <+: (TM.put out n).1 := by
  unfold TM.put
  split
  · exact List.prefix_refl _
  · exact List.prefix_append _ _
def load (q : Nat) : Nat := q * 200000 + 200000
theorem load_lt {x q : Nat} (h : x < q) (hq : q ≤ 100000) : load x + q ≤ load q := by unfold load; omega
/-- walk does as the plain facts say, at all nodes below m. -/
def WalkSaid (w0 : World) (A : Option Addr) (c : Nat) (l : List S46) (Bs Bm Bd cd m : Nat) : Prop := ∀ (q : Nat), q < m → q < l.length → ∀ (ok : Nat → Prop) (v : Value) (out : List S46) (dones : List Int) (w : World),
  Ws w0.heap.size Bs Bm Bd cd ok l v out dones w → (∀ k, w.heap.size ≤ k → ok k) → Below w0.heap.size w0 w → out.length + load q ≤ 100000000000 →
  Calls Tryd.prog 33 #[.pointer (some ⟨Bs, 0, none⟩), .slice A l.length c, .int .i64 q, .slice (some ⟨Bd, 0, none⟩) l.length cd] w (WalkPost w0.heap.size Bs Bm Bd cd ok l v (TM.shr (nds l) m q (nds out)) w)

set_option maxHeartbeats 4000000 in
set_option maxRecDepth 100000 in
theorem walk_new (w0 : World) (A : Option Addr) (c : Nat) (l : List S46) (hC0 : k46.C w0 A l.length l) (hlc : l.length ≤ c) (hm : TM.Mays (nds l)) (hl : l.length ≤ 100000) (Bs Bm Bd cd : Nat) (ht0 : Tab w0) (m q : Nat) (ih : WalkSaid w0 A c l Bs Bm Bd cd m) (hq : q ≤ m) (hql : q < l.length) (ok : Nat → Prop) (v : Value) (out : List S46) (dones : List Int) (w : World)
    (hw : Ws w0.heap.size Bs Bm Bd cd ok l v out dones w) (hfresh : ∀ k, w.heap.size ≤ k → ok k) (hbw : Below w0.heap.size w0 w) (hlen : out.length + load q ≤ 100000000000) (hd : rd dones q = 0) :
    Calls Tryd.prog 33 #[.pointer (some ⟨Bs, 0, none⟩), .slice A l.length c, .int .i64 q, .slice (some ⟨Bd, 0, none⟩) l.length cd] w (WalkPost w0.heap.size Bs Bm Bd cd ok l v (TM.shr (nds l) (m + 1) q (nds out)) w) := by
  obtain ⟨hc, hf⟩ := own_at hw.dn (q : Int) (by omega) (by omega)
  simp only [Int.toNat_natCast] at hc hf
  rw [hd] at hc
  obtain ⟨ad, A2, c2, rfl, hn0, hn1, hn2, hlk, hik⟩ := at_T46 hC0 (q : Int) (by omega) (by omega)
  simp only [Int.toNat_natCast] at hn0 hn1 hn2
  have hbd := hbw.trans ((below_drew (Below.refl w.heap.size w)).mono hbw.size)
  replace hn0 := (hbd.cell (World.block_lt_of_cell? w0 _ hn0)).trans hn0
  replace hn1 := (hbd.cell (World.block_lt_of_cell? w0 _ hn1)).trans hn1
  replace hn2 := (hbd.cell (World.block_lt_of_cell? w0 _ hn2)).trans hn2
  have hqn := nd_nds l q hql
  generalize rd_T46 l q = n0 at hn0 hn1 hn2 hlk hik hqn
  have hm64 : l.length ≤ 9223372036854775807 := by omega
  have hkl : n0.f2.length ≤ 64 := by
    have := TM.fits_bd (hm q (by rw [nds_length]; exact hql)).1
    rw [hqn] at this
    exact this.2.2
  have HW := Lib.hid hw
  have HIH := Lib.hid ih
  have HF := Lib.hid hfresh
  have HBW := Lib.hid hbw
  have HM := Lib.hid hm
  have HC0 := Lib.hid hC0
  have HT0 := Lib.hid ht0
  have HIK := Lib.hid hik
  have HQN := Lib.hid hqn
  have HBD := Lib.hid hbd
  have hq0 : (0 : Int) ≤ (q : Int) := by omega
  have hq1 : (q : Int) < (l.length : Int) := by omega
  have hW2 := Lib.hid (hw.step (below_drew (Below.refl w.heap.size w)))
  clear hw ih hfresh hbw hm hC0 ht0 hik hqn hbd hd
  go_enter Tryd.func33, Tryd.ntmps33
  go_wp2_with fail
  refine start_ (n := 13) (S := fun w' => w'.cell? (ad.add (q * 3)) = some (.int .i64 n0.f0) ∧ w'.cell? ⟨(ad.add (q * 3)).block, (ad.add (q * 3)).off + 1, none⟩ = some (.int .i64 n0.f1)) (ds := [12]) #[false, false, false, false, false, false, false, false, false, false, false, false, false] (by kernel_rfl) rfl rfl ⟨hn0, hn1⟩ (fun hHeld => ?_)
  refine pure_ (i := 0) (N := some 22) (v := ?_) (a' := ?_) #[true, false, false, false, false, false, false, false, false, false, false, false, false] rfl rfl (by kernel_rfl) (fun _ _ _ h => h) (Or.inl ⟨by rfl, ?_⟩) ?_ ?_
  rotate_left
  · intro w'
    go_simp
    with_reducible rfl
  rotate_left
  · simp only [Act.put, List.setIfInBounds_toArray, List.set_cons_zero, List.set_cons_succ, i64_w, i32_w]
    rfl
  refine pure_ (i := 1) (N := some 23) (v := ?_) (a' := ?_) #[true, true, false, false, false, false, false, false, false, false, false, false, false] rfl rfl (by kernel_rfl) (fun _ _ _ h => h) (Or.inl ⟨by rfl, ?_⟩) ?_ ?_
  rotate_left
  · intro w'
    go_simp
    with_reducible rfl
  rotate_left
  · simp only [Act.put, List.setIfInBounds_toArray, List.set_cons_zero, List.set_cons_succ, i64_w, i32_w]
    rfl
  refine pure_ (i := 2) (N := some 24) (v := ?_) (a' := ?_) #[true, true, true, false, false, false, false, false, false, false, false, false, false] rfl rfl (by kernel_rfl) (fun _ _ _ h => h) (Or.inl ⟨by rfl, ?_⟩) ?_ ?_
  rotate_left
  · intro w'
    go_simp
    with_reducible rfl
  rotate_left
  · simp only [Act.put, List.setIfInBounds_toArray, List.set_cons_zero, List.set_cons_succ, i64_w, i32_w]
    rfl
  refine pure_ (i := 3) (N := some 25) (v := ?_) (a' := ?_) #[true, true, true, true, false, false, false, false, false, false, false, false, false] rfl rfl (by kernel_rfl) (fun _ _ _ h => h) (Or.inl ⟨by rfl, ?_⟩) ?_ ?_
  rotate_left
  · intro w'
    go_simp
    with_reducible rfl
  rotate_left
  · simp only [Act.put, List.setIfInBounds_toArray, List.set_cons_zero, List.set_cons_succ, i64_w, i32_w]
    rfl
  refine pure_ (i := 5) (N := some 27) (v := ?_) (a' := ?_) #[true, true, true, true, false, true, false, false, false, false, false, false, false] rfl rfl (by kernel_rfl) (fun _ _ _ h => h) (Or.inl ⟨by rfl, ?_⟩) ?_ ?_
  rotate_left
  · intro w'
    go_simp
    with_reducible rfl
  rotate_left
  · simp only [Act.put, List.setIfInBounds_toArray, List.set_cons_zero, List.set_cons_succ, i64_w, i32_w]
    rfl
  refine pure_ (i := 6) (N := some 28) (v := ?_) (a' := ?_) #[true, true, true, true, false, true, true, false, false, false, false, false, false] rfl rfl (by kernel_rfl) (fun _ _ _ h => h) (Or.inl ⟨by rfl, ?_⟩) ?_ ?_
  rotate_left
  · intro w'
    go_simp
    with_reducible rfl
  rotate_left
  · simp only [Act.put, List.setIfInBounds_toArray, List.set_cons_zero, List.set_cons_succ, i64_w, i32_w]
    rfl
  refine pure_ (i := 7) (N := some 29) (v := ?_) (a' := ?_) #[true, true, true, true, false, true, true, true, false, false, false, false, false] rfl rfl (by kernel_rfl) (fun _ _ _ h => h) (Or.inl ⟨by rfl, ?_⟩) ?_ ?_
  rotate_left
  · intro w'
    go_simp
    with_reducible rfl
  rotate_left
  · simp only [Act.put, List.setIfInBounds_toArray, List.set_cons_zero, List.set_cons_succ, i64_w, i32_w]
    rfl
  refine pure_ (i := 8) (N := some 30) (v := ?_) (a' := ?_) #[true, true, true, true, false, true, true, true, true, false, false, false, false] rfl rfl (by kernel_rfl) (fun _ _ _ h => h) (Or.inl ⟨by rfl, ?_⟩) ?_ ?_
  rotate_left
  · intro w'
    go_simp
    with_reducible rfl
  rotate_left
  · simp only [Act.put, List.setIfInBounds_toArray, List.set_cons_zero, List.set_cons_succ, i64_w, i32_w]
    rfl
  refine take_ (i := 4) (N := some 26) (v := ?_) (a' := ?_) #[true, true, true, true, true, true, true, true, true, false, false, false, false] rfl rfl (by kernel_rfl) (fun _ _ _ h => h) (Or.inl ⟨by rfl, ?_⟩) hHeld ?_ ?_
  rotate_left
  · rintro w' ⟨s0, s1⟩
    go_simp
    with_reducible rfl
  rotate_left
  · simp only [Act.put, List.setIfInBounds_toArray, List.set_cons_zero, List.set_cons_succ, i64_w, i32_w]
    rfl
  refine take_ (i := 9) (N := some 31) (v := ?_) (a' := ?_) #[true, true, true, true, true, true, true, true, true, true, false, false, false] rfl rfl (by kernel_rfl) (fun _ _ _ h => h) (Or.inl ⟨by rfl, ?_⟩) hHeld ?_ ?_
  rotate_left
  · rintro w' ⟨s0, s1⟩
    go_simp
    with_reducible rfl
  rotate_left
  · simp only [Act.put, List.setIfInBounds_toArray, List.set_cons_zero, List.set_cons_succ, i64_w, i32_w]
    rfl
  refine pure_ (i := 10) (N := some 32) (v := ?_) (a' := ?_) #[true, true, true, true, true, true, true, true, true, true, true, false, false] rfl rfl (by kernel_rfl) (fun _ _ _ h => h) (Or.inl ⟨by rfl, ?_⟩) ?_ ?_
  rotate_left
  · intro w'
    go_simp
    with_reducible rfl
  rotate_left
  · simp only [Act.put, List.setIfInBounds_toArray, List.set_cons_zero, List.set_cons_succ, i64_w, i32_w]
    rfl
  refine one_ (i := 11) (N := some 9) #[true, true, true, true, true, true, true, true, true, true, true, true, false] rfl rfl (by kernel_rfl) (by decide) (fun K hK => ?_)
  refine event_step (w1 := w.drew.alloc (.cells #[.int .i64 0, .int .i64 0, .slice none 0 0] 46)) (v := .pointer (some ⟨w.heap.size, 0, none⟩)) (by rfl) (by go_simp) ?_
  have hba := below_alloc (Below.refl w.drew.heap.size w.drew) (.cells #[.int .i64 0, .int .i64 0, .slice none 0 0] 46)
  refine hK.out _ _ ⟨pw_cell_below hba hn0, pw_cell_below hba hn1⟩ (fun hHeld => ?_)
  clear hK K
  refine norm_ (a' := ?_) ?_ ?_
  rotate_left
  · show Act.put _ (some 9) _ = _
    simp only [Act.put, List.setIfInBounds_toArray, List.set_cons_zero, List.set_cons_succ, i64_w, i32_w]
    try rfl
  refine last_ (i := 12) (N := none) #[true, true, true, true, true, true, true, true, true, true, true, true, true] rfl rfl (by kernel_rfl) (by decide) (fun K hK => ?_)
  refine skip_step (w1 := w.drew.alloc (.cells #[.int .i64 n0.f0, .int .i64 n0.f1, .slice none 0 0] 46)) (by rfl) (by go_simp) ?_
  refine hK.out _ _ ?_
  clear hK K
  refine norm_ (a' := ?_) ?_ ?_
  rotate_left
  · show Act.put _ none _ = _
    simp only [Act.put, List.setIfInBounds_toArray, List.set_cons_zero, List.set_cons_succ, i64_w, i32_w]
    try rfl
  refine done_ (by kernel_rfl) ?_
  have hb3 : Below w.heap.size w (w.drew.alloc (.cells #[.int .i64 n0.f0, .int .i64 n0.f1, .slice none 0 0] 46)) := (below_drew (Below.refl w.heap.size w)).alloc (Nat.le_refl _) _
  have hx3 : (w.drew.alloc (.cells #[.int .i64 n0.f0, .int .i64 n0.f1, .slice none 0 0] 46)).heap[w.heap.size]? = some (.cells #[.int .i64 n0.f0, .int .i64 n0.f1, .slice none 0 0] 46 (0, 0)) := heap_alloc_new w.drew _
  have hn23 := (hb3.cell (World.block_lt_of_cell? w _ hn2)).trans hn2
  generalize w.drew.alloc (.cells #[.int .i64 n0.f0, .int .i64 n0.f1, .slice none 0 0] 46) = w3 at hb3 hx3 hn23 ⊢
  have hk0 : Kj w0.heap.size Bs Bm Bd cd ok l v w w.heap.size n0 (TM.kidsOf (TM.shr (nds l) m) (n0.f2.take 0) (nds out)) (.slice none 0 0) v out dones w3 :=
    ⟨((HW.out.bound).mono (fun k hk => ⟨hk.1, by omega, by simp [Value.ownBlock]⟩) (fun k hk => HW.out.okd k hk.1)).step hb3, hx3, Kd.R_nil _ _ _ _ _, rfl, Moved.of_below _ hb3, .inl rfl, Nat.le_refl _, by simp [Value.ownBlock], HW.out.sh.lt, HW.out.sh.map.lt, HW.out.bd.2.1⟩
  have HK0 := Lib.hid hk0
  clear hk0 hHeld hba hn0 hn1 hn2 hb3 hx3 hc hf
  go_wp2_with fail
  go_loopw [11, 39] (fun _ v' wr => ∃ j : Nat, j ≤ n0.f2.length ∧ v' = .int .i64 j ∧ ∃ kv v' out' dones', Hid (Kj w0.heap.size Bs Bm Bd cd ok l v w w.heap.size n0 (TM.kidsOf (TM.shr (nds l) m) (n0.f2.take j) (nds out)) kv v' out' dones' wr)) (fun _ v _ => n0.f2.length - (intOf v).toNat)
  case atStart => exact ⟨0, Nat.zero_le _, rfl, _, _, _, _, HK0⟩
  case round =>
    obtain ⟨j, hj, rfl, kv, v', out', dones', HK⟩ := hrel
    by_cases hlt : j < n0.f2.length
    · obtain ⟨ak, rfl, hck⟩ := Kd.at_int HIK.out (j : Int) (by omega) (by omega)
      simp only [Int.toNat_natCast] at hck
      have hbr := HK.out.mv.below HBW.out HBW.out.size (own4_base HW.out)
      replace hck := (hbr.cell (World.block_lt_of_cell? w0 _ hck)).trans hck
      obtain ⟨t1, t2, t3, t4, t5⟩ := TM.kids_take HM.out m q (nds out) hq (by rw [nds_length]; exact hql) HW.out.good j
      have hkq := (HM.out q (by rw [nds_length]; exact hql)).2 (rd n0.f2 j) (by rw [HQN.out]; exact rd_mem n0.f2 j hlt)
      have hsn := TM.kidsOf_snoc (TM.shr (nds l) m) (rd n0.f2 j) (n0.f2.take j) (nds out)
      rw [show n0.f2.take j ++ [rd n0.f2 j] = n0.f2.take (j + 1) from by rw [List.take_succ_eq_append_getElem hlt]; simp [rd, List.getD_eq_getElem?_getD, List.getElem?_eq_getElem hlt]] at hsn
      rw [HQN.out] at t5
      change _ ≤ _ at t5
      simp only [ndOf] at t5
      rw [nds_length] at t5
      obtain ⟨x, hx⟩ : ∃ x : Nat, rd n0.f2 j = (x : Int) := ⟨(rd n0.f2 j).toNat, by omega⟩
      rw [hx] at hck hkq hsn
      simp only [Int.toNat_natCast] at hsn
      rw [← HK.out.r1] at hsn
      have hkq2 : x < q := by omega
      have hko : out'.length ≤ out.length + q := by rw [← nds_length, HK.out.r1]; exact t5
      have hl2 : (n0.f2.take j).length ≤ 64 := by
        have := TM.fits_bd (HM.out q (by rw [nds_length]; exact hql)).1
        rw [HQN.out] at this
        simp only [ndOf] at this
        rw [List.length_take]; omega
      rw [HQN.out] at t3
      simp only [ndOf] at t3
      have hln : out'.length + load x ≤ 100000000000 := by have := load_lt hkq2 (by omega : q ≤ 100000); omega
      have hr2 := HK.out.r1
      generalize TM.kidsOf (TM.shr (nds l) m) (n0.f2.take j) (nds out) = r at HK hsn t3 hr2
      have HSN := Lib.hid hsn
      have HR2 := Lib.hid hr2
      have HBR := Lib.hid hbr
      clear hsn hbr t1 t2 t4 t5 hx hr2 hkq
      go_wp2_with fail
      have HKd := Lib.hid (HK.out.step (below_drew (Below.refl wr.heap.size wr)))
      have hcd := HKd.out.kc
      have HBD5 := Lib.hid (below_drew HBR.out)
      refine start_ (n := 11) (S := fun w' => w'.cell? ⟨w.heap.size, 2, none⟩ = some kv) (ds := [10]) #[false, false, false, false, false, false, false, false, false, false, false] (by kernel_rfl) rfl rfl hcd (fun hHeld => ?_)
      generalize wr.drew = w5 at HKd hcd HBD5 hHeld ⊢
      refine pure_ (i := 0) (N := some 43) (v := ?_) (a' := ?_) #[true, false, false, false, false, false, false, false, false, false, false] rfl rfl (by kernel_rfl) (fun _ _ _ h => h) (Or.inl ⟨by rfl, ?_⟩) ?_ ?_
      rotate_left
      · intro w'
        go_simp
        with_reducible rfl
      rotate_left
      · simp only [Act.put, List.setIfInBounds_toArray, List.set_cons_zero, List.set_cons_succ, i64_w, i32_w]
        rfl
      refine pure_ (i := 2) (N := some 45) (v := ?_) (a' := ?_) #[true, false, true, false, false, false, false, false, false, false, false] rfl rfl (by kernel_rfl) (fun _ _ _ h => h) (Or.inl ⟨by rfl, ?_⟩) ?_ ?_
      rotate_left
      · intro w'
        go_simp
        with_reducible rfl
      rotate_left
      · simp only [Act.put, List.setIfInBounds_toArray, List.set_cons_zero, List.set_cons_succ, i64_w, i32_w]
        rfl
      refine pure_ (i := 3) (N := some 46) (v := ?_) (a' := ?_) #[true, false, true, true, false, false, false, false, false, false, false] rfl rfl (by kernel_rfl) (fun _ _ _ h => h) (Or.inl ⟨by rfl, ?_⟩) ?_ ?_
      rotate_left
      · intro w'
        go_simp
        with_reducible rfl
      rotate_left
      · simp only [Act.put, List.setIfInBounds_toArray, List.set_cons_zero, List.set_cons_succ, i64_w, i32_w]
        rfl
      refine pure_ (i := 4) (N := some 47) (v := ?_) (a' := ?_) #[true, false, true, true, true, false, false, false, false, false, false] rfl rfl (by kernel_rfl) (fun _ _ _ h => h) (Or.inl ⟨by rfl, ?_⟩) ?_ ?_
      rotate_left
      · intro w'
        go_simp
        with_reducible rfl
      rotate_left
      · simp only [Act.put, List.setIfInBounds_toArray, List.set_cons_zero, List.set_cons_succ, i64_w, i32_w]
        rfl
      refine pure_ (i := 5) (N := some 48) (v := ?_) (a' := ?_) #[true, false, true, true, true, true, false, false, false, false, false] rfl rfl (by kernel_rfl) (fun _ _ _ h => h) (Or.inl ⟨by rfl, ?_⟩) ?_ ?_
      rotate_left
      · intro w'
        go_simp
        with_reducible rfl
      rotate_left
      · simp only [Act.put, List.setIfInBounds_toArray, List.set_cons_zero, List.set_cons_succ, i64_w, i32_w]
        rfl
      refine take_ (i := 1) (N := some 44) (v := ?_) (a' := ?_) #[true, true, true, true, true, true, false, false, false, false, false] rfl rfl (by kernel_rfl) (fun _ _ _ h => h) (Or.inl ⟨by rfl, ?_⟩) hHeld ?_ ?_
      rotate_left
      · intro w' s0
        go_simp
        with_reducible rfl
      rotate_left
      · simp only [Act.put, List.setIfInBounds_toArray, List.set_cons_zero, List.set_cons_succ, i64_w, i32_w]
        rfl
      refine one_ (i := 6) (N := some 49) #[true, true, true, true, true, true, true, false, false, false, false] rfl rfl (by kernel_rfl) (by decide) (fun K hK => ?_)
      refine goes_ Tryd.func33 (by kernel_rfl) rfl #[.pointer (some ⟨Bs, 0, none⟩), .slice (some ad) l.length c, .int .i64 x, .slice (some ⟨Bd, 0, none⟩) l.length cd] (by rfl) rfl rfl (by first | rfl | kernel_rfl | simp [Act.eval]) ?_
      refine (HIH.out x (by omega) (by omega) _ v' out' dones' w5 HKd.out.ws (HKd.out.fresh HF.out) HBD5.out hln).mono ?_
      rintro e w6 hp
      generalize TM.shr (nds l) m x (nds out') = r2 at hp HSN
      obtain ⟨v2, out2, dones2, rfl, hk6⟩ := HKd.out.called hp
      refine ⟨_, rfl, ?_⟩
      have hc6 := hk6.kc
      refine hK.out _ _ hc6 (fun hHeld => ?_)
      clear hK K
      refine norm_ (a' := ?_) ?_ ?_
      rotate_left
      · show Act.put _ (some 49) _ = _
        simp only [Act.put, List.setIfInBounds_toArray, List.set_cons_zero, List.set_cons_succ, i64_w, i32_w]
        try rfl
      refine one_ (i := 7) (N := some 50) #[true, true, true, true, true, true, true, true, false, false, false] rfl rfl (by kernel_rfl) (by decide) (fun K hK => ?_)
      refine event_step (w1 := w6.alloc (.cells #[.int .i64 (r2.2 : Int)] 3)) (v := .slice (some ⟨w6.heap.size, 0, none⟩) 1 1) (by rfl) (by go_simp) ?_
      have hc7 := pw_cell_below (below_alloc (Below.refl w6.heap.size w6) (.cells #[.int .i64 (r2.2 : Int)] 3)) hc6
      refine hK.out _ _ hc7 (fun hHeld => ?_)
      clear hK K
      refine norm_ (a' := ?_) ?_ ?_
      rotate_left
      · show Act.put _ (some 50) _ = _
        simp only [Act.put, List.setIfInBounds_toArray, List.set_cons_zero, List.set_cons_succ, i64_w, i32_w]
        try rfl
      refine one_ (i := 8) (N := some 51) #[true, true, true, true, true, true, true, true, true, false, false] rfl rfl (by kernel_rfl) (by decide) (fun K hK => ?_)
      refine Kd.R_append_step (Kd.int .i64) (w0 := w6) w0.heap.size (by rfl) (.tmp 44) (.tmp 50) 29 3 (.int .i64 0) 8 rfl Tryd.underlying29 info3 rfl (by decide) (by omega) kv r.2 (r2.2 : Int) [.int .i64 (r2.2 : Int)] ok (fun _ => False) rfl rfl rfl (fun _ hk => hk.elim) ?hf hk6.kids ?hB ?hb ?hl ?_
      case hf => exact fun k hk => HF.out k (Nat.le_trans hk6.mv.size hk)
      case hB => exact Below.refl _ _
      case hb => exact Nat.le_trans HBW.out.size hk6.mv.size
      case hl => rw [t3]; omega
      intro v1 w8 hO8 hB8 hg8 hat8
      obtain ⟨A8, c8, rfl⟩ := Kd.R_slice hO8
      have hk8 := hk6.grown hO8 hg8 hat8
      have hc8 := hk6.kc2 hg8
      have hf8 := hk6.kf2 hg8
      refine hK.out _ _ hc8 (fun hHeld => ?_)
      clear hK K
      refine norm_ (a' := ?_) ?_ ?_
      rotate_left
      · show Act.put _ (some 51) _ = _
        simp only [Act.put, List.setIfInBounds_toArray, List.set_cons_zero, List.set_cons_succ, i64_w, i32_w]
        try rfl
      refine pure_ (i := 9) (N := some 52) (v := ?_) (a' := ?_) #[true, true, true, true, true, true, true, true, true, true, false] rfl rfl (by kernel_rfl) (fun _ _ _ h => h) (Or.inl ⟨by rfl, ?_⟩) ?_ ?_
      rotate_left
      · intro w'
        go_simp
        with_reducible rfl
      rotate_left
      · simp only [Act.put, List.setIfInBounds_toArray, List.set_cons_zero, List.set_cons_succ, i64_w, i32_w]
        rfl
      refine last_ (i := 10) (N := none) #[true, true, true, true, true, true, true, true, true, true, true] rfl rfl (by kernel_rfl) (by decide) (fun K hK => ?_)
      refine skip_step (w1 := w8.setCell ⟨w.heap.size, 2, none⟩ (.slice A8 (r.2 ++ [(r2.2 : Int)]).length c8)) (by rfl) (by go_simp) ?_
      refine hK.out _ _ ?_
      clear hK K
      refine norm_ (a' := ?_) ?_ ?_
      rotate_left
      · show Act.put _ none _ = _
        simp only [Act.put, List.setIfInBounds_toArray, List.set_cons_zero, List.set_cons_succ, i64_w, i32_w]
        try rfl
      refine done_ (by kernel_rfl) ?_
      have hk9 := hk8
      rw [show ((r2.1, r.2 ++ [(r2.2 : Int)]) : List TM.Nd × List Int) = TM.kidsOf (TM.shr (nds l) m) (n0.f2.take (j + 1)) (nds out) from HSN.out.symm] at hk9
      clear hk8
      have HK9 := Lib.hid hk9
      clear hk9
      generalize Value.slice A8 (r.2 ++ [(r2.2 : Int)]).length c8 = v8 at HK9 ⊢
      clear hc8 hf8 hO8 hB8 hg8 hat8 hc7 hc6 hk6 hp HKd hcd HBD5
      go_wp2
      go_roundw
      case rel => exact ⟨j + 1, by omega, by go_num, _, _, _, _, HK9⟩
      case measure => simp [intOf]; omega
    · obtain rfl : j = n0.f2.length := by omega
      rw [List.take_length] at HK
      have hbr := HK.out.mv.below HBW.out HBW.out.size (own4_base HW.out)
      obtain ⟨t1, t2, t3, t4, t5⟩ := TM.kids_take HM.out m q (nds out) hq (by rw [nds_length]; exact hql) HW.out.good n0.f2.length
      have hfit := (HM.out q (by rw [nds_length]; exact hql)).1
      have hshr : TM.shr (nds l) (m + 1) q (nds out) = TM.put (TM.kidsOf (TM.shr (nds l) m) n0.f2 (nds out)).1 (n0.f0, n0.f1, (TM.kidsOf (TM.shr (nds l) m) n0.f2 (nds out)).2) := by
        rw [TM.shr, HQN.out]; rfl
      obtain ⟨s1, _, s3, s4, _⟩ := TM.shr_spec HM.out (m + 1) q (nds out) (by omega) (by rw [nds_length]; exact hql) HW.out.good
      have s5 := TM.shr_len HM.out (m + 1) q (nds out) (by omega) (by rw [nds_length]; exact hql) HW.out.good
      rw [nds_length] at s5
      rw [hshr] at s1 s3 s4 s5
      rw [HQN.out] at t1 t2 t3 t4 t5 hfit
      simp only [ndOf] at t1 t2 t3 t4 t5 hfit
      rw [List.take_length] at t1 t2 t3 t4 t5
      rw [nds_length] at t5
      have HSHR := Lib.hid hshr
      clear hshr
      have hr2 := HK.out.r1
      generalize TM.kidsOf (TM.shr (nds l) m) n0.f2 (nds out) = r at HK t1 t2 t3 t4 t5 hr2 s1 s3 s4 s5 HSHR
      have ho2 : out'.length ≤ 100000000000 := by
        have e : out'.length = r.1.length := by rw [← hr2, nds_length]
        have e2 : q ≤ load q := by unfold load; omega
        omega
      have hok : TM.ok out'.length (ndOf ⟨n0.f0, n0.f1, r.2⟩) := by
        refine ⟨by simp only [ndOf]; rw [t3]; exact hfit, fun k hk => ?_⟩
        have := t4 k hk
        rw [← hr2, nds_length] at this
        exact this
      rw [← hr2] at t1 t2 s1 s3 s4 s5 HSHR
      have hkb0 : wr.cell? ⟨w.heap.size, 0, none⟩ = some (.int .i64 n0.f0) := by rw [cell_of_row _ _ 0 _ _ _ HK.out.box]; rfl
      have hkb1 : wr.cell? ⟨w.heap.size, 1, none⟩ = some (.int .i64 n0.f1) := by rw [cell_of_row _ _ 1 _ _ _ HK.out.box]; rfl
      have hkb2 := HK.out.kc
      have HOK := Lib.hid hok
      have HBR := Lib.hid hbr
      have HT1 := Lib.hid t1
      have HT2 := Lib.hid t2
      have HS1 := Lib.hid s1
      have HS4 := Lib.hid s4
      have hqld : q ≤ load q := by unfold load; omega
      have hpi : (TM.put (nds out') (n0.f0, n0.f1, r.2)).2 ≤ 200000000000 := by omega
      have HS3 := Lib.hid s3
      clear hlen t1 t2 t3 t4 t5 hfit hok hbr s1 s3 s4 s5 hr2
      go_wp2_with fail
      refine (put_any w0.heap.size Bs Bm ok v' out' ⟨n0.f0, n0.f1, r.2⟩ kv wr (HK.out.ws.sh.mono (fun k hk => hk.1)) (fun k hk => HF.out k (Nat.le_trans HK.out.mv.size hk)) HBR.out.size HT1.out HOK.out HK.out.kids (HT0.out.later (Nat.le_refl _) HBR.out) ho2).mono ?_
      rintro e w7 ⟨v7, rfl, hs7, hm7, hat7⟩
      have hbd7 : ¬ Own3 Bs Bm v' Bd := by
        obtain ⟨a1, a2, a3⟩ := HK.out.ws.apart
        rintro (h | h | h)
        · exact a1 h
        · exact a2 h
        · exact a3 h
      have hdn7 : w7.ownsRow w0.heap.size 3 1 (.slice (some ⟨Bd, 0, none⟩) l.length cd) l.length (nums .i64 dones') := own_move HK.out.ws.dn (fun k hk' => by
        have : Bd = k := by simpa [Value.ownBlock] using hk'
        subst this
        exact hm7.block Bd HK.out.ws.bd.2.1 hbd7)
      change (TM.put (nds out') (ndOf ⟨n0.f0, n0.f1, r.2⟩)).2 ≤ _ at hpi
      generalize hpe : (TM.put (nds out') (ndOf ⟨n0.f0, n0.f1, r.2⟩)).2 = pi at hpi ⊢
      obtain ⟨hc7, hf7⟩ := own_at hdn7 (q : Int) (by omega) (by omega)
      simp only [Int.toNat_natCast] at hc7 hf7
      obtain ⟨hst8, hg8⟩ := own_store hdn7 (q : Int) ((pi : Int) + 1)
      simp only [Int.toNat_natCast] at hst8 hg8
      obtain ⟨hc8, _⟩ := own_at hst8 (q : Int) (by omega) (by omega)
      simp only [Int.toNat_natCast] at hc8
      rw [rd_set dones' q q _ (by rw [HK.out.ws.dk.1]; exact hql), if_pos rfl] at hc8
      have HS7 := Lib.hid hs7
      have HM7 := Lib.hid hm7
      have HAT7 := Lib.hid hat7
      have HST8 := Lib.hid hst8
      have HG8 := Lib.hid hg8
      have HPE := Lib.hid hpe
      clear hs7 hm7 hat7 hst8 hg8 hpe hbd7 hdn7
      go_wp2_with fail
      go_ret
      obtain ⟨a1, a2, a3⟩ := HK.out.ws.apart
      have hn := nds_putS out' ⟨n0.f0, n0.f1, r.2⟩
      have hm8 : Moved (fun i => i = Bd) w7 (w7.setCell ⟨Bd, q, none⟩ (.int .i64 ((pi : Int) + 1))) := Moved.of_grown HG8.out fun i hi => by injection hi with hi; exact hi.symm
      have hpl : pi < (putS out' ⟨n0.f0, n0.f1, r.2⟩).length := by
        have := HS3.out
        change (TM.put (nds out') (ndOf ⟨n0.f0, n0.f1, r.2⟩)).2 < (TM.put (nds out') (ndOf ⟨n0.f0, n0.f1, r.2⟩)).1.length at this
        rw [HPE.out, ← hn, nds_length] at this
        exact this
      have hTq : TM.T (nds (putS out' ⟨n0.f0, n0.f1, r.2⟩)) pi = TM.T (nds l) q := by
        have := HS4.out
        change TM.T (TM.put (nds out') (ndOf ⟨n0.f0, n0.f1, r.2⟩)).1 (TM.put (nds out') (ndOf ⟨n0.f0, n0.f1, r.2⟩)).2 = _ at this
        rw [HPE.out, ← hn] at this
        exact this
      refine ⟨v7, putS out' ⟨n0.f0, n0.f1, r.2⟩, dones'.set q ((pi : Int) + 1), ?_, ?_, ⟨HS7.out.moved hm8 (fun k hk => HW.out.okd k hk) (fun e => a1 e.symm) (fun e => a2 e.symm), HST8.out, ?_, ?_, HW.out.okd⟩, ?_, ?_⟩
      · rw [HSHR.out]
        change _ = Ending.returned (.int .i64 ((TM.put (nds out') (ndOf ⟨n0.f0, n0.f1, r.2⟩)).2 : Int))
        rw [HPE.out]
        rfl
      · rw [HSHR.out]; exact hn
      · exact HK.out.ws.dk.set (by rw [hn]; exact put_prefix _ _) HT1.out.1 hql hpl hTq
      · rw [hn]; exact HS1.out
      · exact HK.out.put HM7.out hm8
      · have := HK.out.mv.size
        rcases HAT7.out with e | ⟨b, e, hb⟩
        · rw [e]; exact HK.out.hat
        · exact .inr ⟨b, e, by omega⟩
end Go.Proofs.YtlgnogpjmdhflaaDoor
