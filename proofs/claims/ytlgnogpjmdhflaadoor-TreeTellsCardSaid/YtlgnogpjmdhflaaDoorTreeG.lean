/- walk of tree's sharer: it puts in what the plain facts say. -/
import Derived.Test.YtlgnogpjmdhflaaDoorTreeF
namespace Go.Proofs.YtlgnogpjmdhflaaDoor
open Go.RowKit Go.Proofs.YtlgnogpjmdhflaaDoorW.PrintWords Go.Proofs.YtlgnogpjmdhflaaDoorW.PrintLast Go.Proofs.YtlgnogpjmdhflaaDoorW.PrintMore Go.Proofs.YtlgnogpjmdhflaaDoor.PRef Go.Maps
set_option linter.unusedVariables false
set_option linter.unusedSimpArgs false

/-! ### put, whichever way -/
theorem ndOf_inj {a b : S46} (h : ndOf a = ndOf b) : a = b := by
  cases a
  cases b
  simp only [ndOf, Prod.mk.injEq] at h
  obtain ⟨rfl, rfl, rfl⟩ := h
  rfl
theorem nds_inj : ∀ {a b : List S46}, nds a = nds b → a = b := by
  intro a
  induction a with
  | nil => intro b h; cases b with
    | nil => rfl
    | cons => simp [nds] at h
  | cons x a ih =>
    intro b h
    cases b with
    | nil => simp [nds] at h
    | cons y b =>
      simp only [nds, List.map_cons, List.cons.injEq] at h
      rw [ndOf_inj h.1, ih h.2]
theorem mem_nds {n : S46} {out : List S46} : ndOf n ∈ nds out ↔ n ∈ out := by
  unfold nds
  constructor
  · intro h
    obtain ⟨m, hm, e⟩ := List.mem_map.1 h
    rw [← ndOf_inj e]; exact hm
  · intro h
    exact List.mem_map_of_mem h
theorem nodup_nds {out : List S46} (h : (nds out).Nodup) : out.Nodup := by
  unfold nds at h
  unfold List.Nodup at *
  rw [List.pairwise_map] at h
  exact h.imp fun hne e => hne (by rw [e])
theorem plainly_of {i : Nat} {n : S46} (h : TM.ok i (ndOf n)) (hi : i ≤ 100000000000) : Plainly n := by
  have hb := TM.fits_bd h.1
  refine ⟨by unfold ndOf at hb; simp only at hb; omega, by unfold ndOf at hb; simp only at hb; omega, hb.2.2, fun k hk => ?_⟩
  have := h.2 k hk
  omega
theorem plainly_all {out : List S46} (h : TM.Mays (nds out)) (hl : out.length ≤ 100000000000) : ∀ m ∈ out, Plainly m := by
  intro m hm
  obtain ⟨i, hi, rfl⟩ := List.mem_iff_getElem.1 hm
  have h1 := h i (by rw [nds_length]; exact hi)
  rw [nd_nds out i hi] at h1
  have e : rd_T46 out i = out[i] := by unfold rd_T46; simp [List.getD_eq_getElem?_getD, List.getElem?_eq_getElem hi]
  rw [e] at h1
  exact plainly_of h1 (by omega)

open Classical in
/-- The nodes behind put. -/
noncomputable def putS (out : List S46) (n : S46) : List S46 := if n ∈ out then out else out ++ [n]
theorem nds_putS (out : List S46) (n : S46) : nds (putS out n) = (TM.put (nds out) (ndOf n)).1 := by
  unfold putS TM.put
  by_cases h : n ∈ out
  · rw [if_pos h, if_pos (mem_nds.2 h)]
  · rw [if_neg h, if_neg (fun e => h (mem_nds.1 e))]
    simp [nds]

theorem put_any (base Bs Bm : Nat) (ok : Nat → Prop) (v : Value) (out : List S46) (n : S46) (kv : Value) (w : World) (hs : Sh base Bs Bm ok v out w) (hfresh : ∀ k, w.heap.size ≤ k → ok k) (hbase : base ≤ w.heap.size)
    (hok : TM.Ok (nds out)) (hn : TM.ok out.length (ndOf n)) (hkv : (Kd.int .i64).R 3 w base ok kv n.f2) (ht : Tab w) (hlen : out.length ≤ 100000000000) :
    Calls Tryd.prog 36 #[.pointer (some ⟨Bs, 0, none⟩), .agg #[.int .i64 n.f0, .int .i64 n.f1, kv]] w (PutPost base Bs Bm ok v (putS out n) (TM.put (nds out) (ndOf n)).2 w) := by
  have hp := plainly_of hn hlen
  have hpo := plainly_all hok.1 hlen
  by_cases h : n ∈ out
  · have hi := List.idxOf_lt_length_of_mem (mem_nds.2 h)
    have hi' : (nds out).idxOf (ndOf n) < out.length := by rw [nds_length] at hi; exact hi
    have e1 : putS out n = out := by unfold putS; rw [if_pos h]
    have e2 : (TM.put (nds out) (ndOf n)).2 = (nds out).idxOf (ndOf n) := by unfold TM.put; rw [if_pos (mem_nds.2 h)]
    rw [e1, e2]
    obtain ⟨A, c, rfl, hc, hr⟩ := Kd.R_reads hkv
    refine put_there base Bs Bm ok v out n _ A c w hs hp hpo (nodup_nds hok.2) hr hc ht ?_ hlen
    have h1 := TM.nd_idxOf (mem_nds.2 h)
    rw [nd_nds out _ hi'] at h1
    have h2 := ndOf_inj h1
    unfold rd_T46 at h2
    rw [List.getElem?_eq_getElem hi']
    simpa [List.getD_eq_getElem?_getD, List.getElem?_eq_getElem hi'] using h2
  · have e1 : putS out n = out ++ [n] := by unfold putS; rw [if_neg h]
    have e2 : (TM.put (nds out) (ndOf n)).2 = out.length := by unfold TM.put; rw [if_neg (fun e => h (mem_nds.1 e)), nds_length]
    rw [e1, e2]
    exact put_new base Bs Bm ok v out n kv w hs hfresh hbase hp hpo hkv ht h hlen

/-! ### walk -/
theorem Moved.trans' {S S' : Nat → Prop} {a b c : World} (h : Moved S a b) (k : Moved S' b c) (hs : ∀ i, i < a.heap.size → S' i → S i) : Moved S a c :=
  ⟨k.os.trans h.os, k.tape.trans h.tape, k.output.trans h.output, Nat.le_trans h.size k.size, fun i hi hn => (k.block i (Nat.lt_of_lt_of_le hi h.size) fun e => hn (hs i hi e)).trans (h.block i hi hn)⟩
/-- What is told of those that are in. -/
def DoneOk (l out : List S46) (dones : List Int) : Prop := dones.length = l.length ∧ ∀ j : Nat, j < l.length → 0 ≤ rd dones j ∧ rd dones j ≤ out.length ∧ (0 < rd dones j → TM.T (nds out) ((rd dones j).toNat - 1) = TM.T (nds l) j)
/-- A walk's state. -/
structure Ws (base Bs Bm Bd cd : Nat) (ok : Nat → Prop) (l : List S46) (v : Value) (out : List S46) (dones : List Int) (w : World) : Prop where
  sh : Sh base Bs Bm ok v out w
  dn : w.ownsRow base 3 1 (.slice (some ⟨Bd, 0, none⟩) l.length cd) l.length (nums .i64 dones)
  dk : DoneOk l out dones
  good : TM.Ok (nds out)
  okd : ∀ k, ok k → k ≠ Bd
def Own4 (Bs Bm Bd : Nat) (v : Value) : Nat → Prop := fun b => Own3 Bs Bm v b ∨ b = Bd
def WalkPost (base Bs Bm Bd cd : Nat) (ok : Nat → Prop) (l : List S46) (v : Value) (r : List TM.Nd × Nat) (w : World) (e : Ending) (w' : World) : Prop :=
  ∃ v' out' dones', e = .returned (.int .i64 (r.2 : Int)) ∧ nds out' = r.1 ∧ Ws base Bs Bm Bd cd ok l v' out' dones' w' ∧ Moved (Own4 Bs Bm Bd v) w w' ∧ (v'.ownBlock = v.ownBlock ∨ ∃ b, v'.ownBlock = some b ∧ w.heap.size ≤ b)

theorem Ws.step {base Bs Bm Bd cd : Nat} {ok : Nat → Prop} {l : List S46} {v : Value} {out : List S46} {dones : List Int} {w w' : World} (h : Ws base Bs Bm Bd cd ok l v out dones w) (hb : Below w.heap.size w w') : Ws base Bs Bm Bd cd ok l v out dones w' :=
  ⟨h.sh.step hb, pw_own_below h.dn hb, h.dk, h.good, h.okd⟩
theorem Ws.bd {base Bs Bm Bd cd : Nat} {ok : Nat → Prop} {l : List S46} {v : Value} {out : List S46} {dones : List Int} {w : World} (h : Ws base Bs Bm Bd cd ok l v out dones w) : base ≤ Bd ∧ Bd < w.heap.size ∧ ∃ cells, w.heap[Bd]? = some (.cells cells 3 (0, 0)) :=
  ⟨own_base h.dn Bd (by simp [Value.ownBlock]), own_lt h.dn Bd (by simp [Value.ownBlock]), own_typed h.dn Bd (by simp [Value.ownBlock])⟩

set_option maxHeartbeats 2000000 in
set_option maxRecDepth 100000 in
/-- A node that is in already. -/
theorem walk_done (w0 : World) (A : Option Addr) (c : Nat) (l : List S46) (hm : TM.Mays (nds l)) (hl : l.length ≤ 100000) (Bs Bm Bd cd : Nat) (m q : Nat) (hq : q < m) (hql : q < l.length) (ok : Nat → Prop) (v : Value) (out : List S46) (dones : List Int) (w : World)
    (hw : Ws w0.heap.size Bs Bm Bd cd ok l v out dones w) (hd : 0 < rd dones q) :
    Calls Tryd.prog 33 #[.pointer (some ⟨Bs, 0, none⟩), .slice A l.length c, .int .i64 q, .slice (some ⟨Bd, 0, none⟩) l.length cd] w (WalkPost w0.heap.size Bs Bm Bd cd ok l v (TM.shr (nds l) m q (nds out)) w) := by
  obtain ⟨d0, d1, d2⟩ := hw.dk.2 q hql
  have hshr := TM.shr_there hm hw.good m q ((rd dones q).toNat - 1) hq (by rw [nds_length]; exact hql) (by rw [nds_length]; omega) (d2 hd).symm
  obtain ⟨hc, hf⟩ := own_at hw.dn (q : Int) (by omega) (by omega)
  simp only [Int.toNat_natCast] at hc hf
  have hpost : WalkPost w0.heap.size Bs Bm Bd cd ok l v (TM.shr (nds l) m q (nds out)) w (.returned (.int .i64 (rd dones q - 1))) w := by
    rw [hshr]
    exact ⟨v, out, dones, by simp only; rw [show (((rd dones q).toNat - 1 : Nat) : Int) = rd dones q - 1 from by omega], rfl, hw, Moved.refl _ _, .inl rfl⟩
  have HP := Lib.hid hpost
  have h64 : rd dones q ≤ 9223372036854775807 := by
    have h1 := hw.sh.row
    have h2 : out.length ≤ 9223372036854775807 := by
      obtain ⟨A', c', _, _, hr⟩ := Kd.R_reads h1
      exact hr.2.1
    omega
  clear hshr hw d2 hpost
  generalize rd dones q = x at hc HP hd h64 d0 d1
  have hdd : decide (0 < x) = true := decide_eq_true hd
  go_enter Tryd.func33, Tryd.ntmps33
  go_wp2_with fail
  go_ret
  exact HP.out
end Go.Proofs.YtlgnogpjmdhflaaDoor
