/- walk and Share of tree. -/
import Derived.Test.YtlgnogpjmdhflaaDoorTreeH
namespace Go.Proofs.YtlgnogpjmdhflaaDoor
open Go.RowKit Go.Proofs.YtlgnogpjmdhflaaDoorW.PrintWords Go.Proofs.YtlgnogpjmdhflaaDoorW.PrintLast Go.Proofs.YtlgnogpjmdhflaaDoorW.PrintMore Go.Proofs.YtlgnogpjmdhflaaDoor.PRef Go.Maps
set_option linter.unusedVariables false
set_option linter.unusedSimpArgs false

theorem walk_any (w0 : World) (A : Option Addr) (c : Nat) (l : List S46) (hC0 : k46.C w0 A l.length l) (hlc : l.length ≤ c) (hm : TM.Mays (nds l)) (hl : l.length ≤ 100000) (Bs Bm Bd cd : Nat) (ht0 : Tab w0) : ∀ m, WalkSaid w0 A c l Bs Bm Bd cd m := by
  intro m
  induction m with
  | zero => intro q h; omega
  | succ m ih =>
    intro q hq hql ok v out dones w hw hfresh hbw hlen
    obtain ⟨d0, d1, d2⟩ := hw.dk.2 q hql
    rcases Int.lt_or_le 0 (rd dones q) with h | h
    · exact walk_done w0 A c l hm hl Bs Bm Bd cd (m + 1) q hq hql ok v out dones w hw h
    · exact walk_new w0 A c l hC0 hlc hm hl Bs Bm Bd cd ht0 m q ih (by omega) hql ok v out dones w hw hfresh hbw hlen (by omega)

theorem rd_zeros (n j : Nat) : rd (List.replicate n 0) j = 0 := by
  unfold rd
  rw [List.getD_eq_getElem?_getD, List.getElem?_replicate]
  split <;> rfl
/-- A sharer that is new. -/
theorem Sh.begin (base : Nat) (w : World) (hb : base ≤ w.heap.size) : Sh base (w.heap.size + 1) w.heap.size (fun _ => True) (.slice none 0 0) [] ((w.alloc (.map #[] 0)).alloc (.cells #[.slice none 0 0, .map (some w.heap.size)] 62)) := by
  refine ⟨by omega, hb, ?_, Kd.R_nil _ _ _ _ _, World.ownsMap.alloc (World.ownsMap_made _ _ _ _) _⟩
  have h := heap_alloc_new (w.alloc (.map #[] 0)) (.cells #[.slice none 0 0, .map (some w.heap.size)] 62)
  have e : (w.alloc (.map #[] 0)).heap.size = w.heap.size + 1 := by simp
  rw [e] at h
  exact h
theorem Sh.bound {base Bs Bm : Nat} {ok : Nat → Prop} {v : Value} {out : List S46} {w : World} (h : Sh base Bs Bm ok v out w) : Sh base Bs Bm (fun k => ok k ∧ k < w.heap.size) v out w :=
  ⟨h.hs, h.hm, h.blk, Kd.R_mono (Kd.R_bound h.row) (fun k hk => ⟨hk.1, hk.2.2.1⟩), h.map⟩
/-- A walk begins. -/
theorem Ws.begin {base Bs Bm : Nat} {ok : Nat → Prop} {v : Value} {out : List S46} {w : World} (h : Sh base Bs Bm ok v out w) (hg : TM.Ok (nds out)) (hb : base ≤ w.heap.size) (l : List S46) (hl : l.length ≤ 100000) :
    Ws base Bs Bm w.heap.size l.length (fun k => ok k ∧ k ≠ w.heap.size) l v out (List.replicate l.length 0) (w.alloc (.cells (madeCells #[.int .i64 0] l.length) 3)) := by
  refine ⟨(h.bound.mono (fun k hk => ⟨hk.1, by omega⟩)).step (below_alloc (Below.refl _ _) _), own_made w base 3 .i64 l.length hb (by omega), ⟨List.length_replicate .., fun j hj => ?_⟩, hg, fun k hk => hk.2⟩
  rw [rd_zeros]
  exact ⟨by omega, by omega, by omega⟩

def shareS (l : List S46) : List TM.Nd := if mayB l = true then TM.share (nds l) else []
/-- What is made. -/
def Made (ns : List TM.Nd) (w : World) (e : Ending) (w' : World) : Prop := ∃ v' out', e = .returned v' ∧ nds out' = ns ∧ k46.R 46 w' w.heap.size (fun _ => True) v' out' ∧ Below w.heap.size w w'

set_option maxHeartbeats 4000000 in
set_option maxRecDepth 100000 in
theorem share_any (A : Option Addr) (c : Nat) (l : List S46) (w : World) (hC : k46.C w A l.length l) (hlc : l.length ≤ c) (ht : Tab w) : Calls Tryd.prog 17 #[.slice A l.length c] w (Made (shareS l) w) := by
  have HC := Lib.hid hC
  have HT := Lib.hid ht
  have hm64 : l.length ≤ 9223372036854775807 := hC.2.1
  clear hC ht
  cases hmay : mayB l with
  | false =>
    have hs : shareS l = [] := by unfold shareS; rw [hmay]; rfl
    go_enter Tryd.func17, Tryd.ntmps17
    go_wp2_with fail
    have hX := may_any A c l w HC.out hlc
    refine hX.mono ?_
    rintro e w1 ⟨rfl, hb1⟩
    rw [hmay]
    go_wp2
    go_ret
    exact ⟨_, [], rfl, hs.symm, Kd.R_nil _ _ _ _ _, hb1⟩
  | true =>
    obtain ⟨hms, hl0, hl1⟩ := (mayB_iff l).1 hmay
    have hs : shareS l = TM.share (nds l) := by unfold shareS; rw [hmay]; rfl
    obtain ⟨q, hq⟩ : ∃ q : Nat, l.length = q + 1 := ⟨l.length - 1, by omega⟩
    have hq1 : (l.length : Int) - 1 = (q : Int) := by omega
    have hmm := @run_makeMap Tryd.prog
    have hmk := print_make (P := Tryd.prog) 29 3 .i64 8 Tryd.underlying29 info3 (by decide) l.length (by omega)
    have HMS := Lib.hid hms
    have HQ := Lib.hid hq
    have HQ1 := Lib.hid hq1
    clear hms hq hq1
    go_enter Tryd.func17, Tryd.ntmps17
    go_wp2_with fail
    refine (may_any A c l w HC.out hlc).mono ?_
    rintro e w1 ⟨rfl, hb1⟩
    rw [hmay]
    go_wp2_with fail
    have hsh := Sh.begin w.heap.size w1 hb1.size
    have e2 : ((w1.alloc (.map #[] 0)).alloc (.cells #[.slice none 0 0, .map (some w1.heap.size)] 62)).heap.size = w1.heap.size + 1 + 1 := by simp
    have hb2 : Below w.heap.size w ((w1.alloc (.map #[] 0)).alloc (.cells #[.slice none 0 0, .map (some w1.heap.size)] 62)) := (hb1.alloc hb1.size _).alloc (by simp; have := hb1.size; omega) _
    generalize ((w1.alloc (.map #[] 0)).alloc (.cells #[.slice none 0 0, .map (some w1.heap.size)] 62)) = W2 at hsh e2 hb2 ⊢
    have hws := Ws.begin hsh TM.Ok.nil hb2.size l hl1
    have hb3 := hb2.alloc hb2.size (.cells (madeCells #[.int .i64 0] l.length) 3)
    have e3 : (W2.alloc (.cells (madeCells #[.int .i64 0] l.length) 3)).heap.size = W2.heap.size + 1 := by simp
    generalize (W2.alloc (.cells (madeCells #[.int .i64 0] l.length) 3)) = W3 at hws hb3 e3 ⊢
    rw [e2] at hws e3
    rw [HQ1.out]
    have hld : ([] : List S46).length + load q ≤ 100000000000 := by have := HQ.out; unfold load; simp; omega
    have hs' : TM.share (nds l) = (TM.shr (nds l) l.length q []).1 := by unfold TM.share; rw [nds_length, show l.length - 1 = q from by have := HQ.out; omega]
    have HSS := Lib.hid (hs.trans hs')
    have HW := Lib.hid hws
    have HB3 := Lib.hid hb3
    clear hsh hb1 hb2 hws hb3 hs' hs
    refine (walk_any w A c l HC.out hlc HMS.out hl1 (w1.heap.size + 1) w1.heap.size (w1.heap.size + 1 + 1) l.length HT.out l.length q (by have := HQ.out; omega) (by have := HQ.out; omega) _ _ [] _ W3 HW.out (fun k hk => ⟨trivial, by omega⟩) HB3.out hld).mono ?_
    rintro e w4 ⟨v', out', dones', rfl, hn, hws4, hm4, _⟩
    have hb4 := hm4.below HB3.out HB3.out.size (own4_base HW.out)
    have hc4 := hws4.sh.c0
    have HW4 := Lib.hid hws4
    have HB4 := Lib.hid hb4
    have HN := Lib.hid hn
    clear hws4 hm4 hb4 hn
    go_wp2_with fail
    go_ret
    exact ⟨_, out', rfl, HN.out.trans HSS.out.symm, Kd.R_mono HW4.out.sh.row (fun _ _ => trivial), HB4.out⟩
end Go.Proofs.YtlgnogpjmdhflaaDoor
