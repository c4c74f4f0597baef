/- The document's Text and Share. -/
import Derived.Test.YtlgnogpjmdhflaaDoorTreeX
namespace Go.Proofs.YtlgnogpjmdhflaaDoor
open Go.RowKit Go.Proofs.YtlgnogpjmdhflaaDoorW.PrintWords Go.Proofs.YtlgnogpjmdhflaaDoorW.PrintLast Go.Proofs.YtlgnogpjmdhflaaDoorW.PrintMore Go.Proofs.YtlgnogpjmdhflaaDoor.PRef Go.Maps
set_option linter.unusedVariables false
set_option linter.unusedSimpArgs false

theorem walk7_root (A : Option Addr) (c : Nat) (t : List S47) (hlc : t.length ≤ c) (hm : TM.Mays (nds7 t)) (hl : t.length ≤ 100000) (h0 : 0 < t.length) (hT : (TM.T (nds7 t) (t.length - 1)).length ≤ 100000) (w : World) (hC : k47.C w A t.length t) :
    Calls Tryd.prog 22 #[.slice A t.length c, .int .i64 ((t.length : Int) - 1), .slice none 0 0, .slice none 0 0] w fun e w' =>
      ∃ TA tc OA oc out', e = .returned (.tuple #[.string (strT (TM.T (nds7 t) (t.length - 1))), .slice TA out'.length tc, .slice OA out'.length oc, .int .i64 ((TM.shr (nds7 t) t.length (t.length - 1) []).2 : Int)]) ∧
        nds7 out' = TM.share (nds7 t) ∧ k47.C w' OA out'.length out' ∧ out'.length ≤ oc ∧ Below w.heap.size w w' := by
  have h := walk7_any A c t hlc hm hl t.length (t.length - 1) (by omega) (by omega) hT (fun _ => True) none 0 none 0 [] w hC (Tx.nil w _) TM.Ok.nil (by unfold load; simp; omega)
  simp only [List.length_nil] at h
  rw [show ((t.length - 1 : Nat) : Int) = (t.length : Int) - 1 by omega] at h
  refine h.mono ?_
  rintro e w' ⟨TA, tc, OA, oc, out', he, hn, hx, hb⟩
  refine ⟨TA, tc, OA, oc, out', he, ?_, Kd.F_now hx.oF, hx.oc, hb⟩
  rw [hn]
  unfold TM.share
  rw [nds7_length]
  rfl

set_option maxHeartbeats 4000000 in
set_option maxRecDepth 100000 in
theorem text7_any (A : Option Addr) (c : Nat) (t : List S47) (hlc : t.length ≤ c) (hm : TM.Mays (nds7 t)) (hl : t.length ≤ 100000) (h0 : 0 < t.length) (hT : (TM.T (nds7 t) (t.length - 1)).length ≤ 100000) (w : World) (hC : k47.C w A t.length t) :
    Calls Tryd.prog 11 #[.slice A t.length c] w fun e w' => e = .returned (.string (strT (TM.T (nds7 t) (t.length - 1)))) ∧ Below w.heap.size w w' := by
  have H := Lib.hid (walk7_root A c t hlc hm hl h0 hT w hC)
  clear hm hT hC
  go_enter Tryd.func11, Tryd.ntmps11
  go_wp2_with fail
  refine H.out.mono ?_
  rintro e w' ⟨TA, tc, OA, oc, out', rfl, hn, hx, ho, hb⟩
  clear hn hx H
  generalize ((TM.shr (nds7 t) t.length (t.length - 1) []).2 : Int) = r
  go_wp2
  go_ret
  exact ⟨rfl, hb⟩

/-- What the document shares. -/
def Made7 (ns : List TM.Nd) (w : World) (e : Ending) (w' : World) : Prop := ∃ A' c' out', e = .returned (.slice A' out'.length c') ∧ nds7 out' = ns ∧ out'.length ≤ c' ∧ k47.C w' A' out'.length out' ∧ Below w.heap.size w w'
theorem kids9 {l : List S46} (hm : ∀ n ∈ l, n.f2.length ≤ 200) : ∀ n ∈ l, n.f2.length < 9223372036854775807 := fun n hn => by have := hm n hn; omega
theorem may7_any (A : Option Addr) (c : Nat) (l : List S46) (w : World) (hC : k47.C w A l.length (l.map conv)) (hc : l.length ≤ c) (hl : l.length < 9223372036854775807) (hm : ∀ n ∈ l, n.f2.length < 9223372036854775807) :
    Calls Tryd.prog 9 #[.slice A l.length c] w fun e w' => e = .returned (.bool (mayB l)) ∧ Below w.heap.size w w' := by
  obtain ⟨k, hk⟩ := mayRef l hl hm
  have h := stratagemref19_May.calls k A c (l.map conv) (mayB l) w (by rw [List.length_map]; exact hC) (by rw [List.length_map]; exact hc) hk
  rw [List.length_map] at h
  refine h.mono ?_
  rintro e w' ⟨rfl, hd⟩
  exact ⟨rfl, hd.below⟩
/-- A small tree's text is of few letters. -/
theorem small_text {l : List S46} (hs : Small l) (hmay : mayB l = true) : (TM.T (nds l) (l.length - 1)).length ≤ 2800 := by
  obtain ⟨hM, h0, _⟩ := (mayB_iff l).1 hmay
  have h1 := hs.2.2 hmay
  have e : sizeOf l = TM.up TM.sizeF 0 (nds l) (l.length - 1) := by unfold sizeOf TM.size; rw [hmay, nds_length]; rfl
  rw [e] at h1
  have := TM.T_len hM (l.length - 1) (by rw [nds_length]; omega) (by unfold TM.top; omega)
  omega

set_option maxHeartbeats 4000000 in
set_option maxRecDepth 100000 in
theorem share7_any (A : Option Addr) (c : Nat) (l : List S46) (w : World) (hC : k47.C w A l.length (l.map conv)) (hc : l.length ≤ c) (hs : Small l) :
    Calls Tryd.prog 18 #[.slice A l.length c] w (Made7 (shareS l) w) := by
  have HC := Lib.hid hC
  have hl := hs.1
  have HM := Lib.hid (kids9 hs.2.1)
  have HS := Lib.hid hs
  clear hC hs
  cases hmay : mayB l with
  | false =>
    have hsh : shareS l = [] := by unfold shareS; rw [hmay]; rfl
    have HSH := Lib.hid hsh
    have HMAY := Lib.hid hmay
    clear hsh hmay
    go_enter Tryd.func18, Tryd.ntmps18
    go_wp2_with fail
    refine (may7_any A c l w HC.out hc (by omega) HM.out).mono ?_
    rintro e w1 ⟨rfl, hb⟩
    rw [HMAY.out]
    go_wp2
    go_ret
    exact ⟨none, 0, [], rfl, by rw [HSH.out]; rfl, Nat.le_refl _, Kd.C_nil _ _, hb⟩
  | true =>
    obtain ⟨hM, h0, _⟩ := (mayB_iff l).1 hmay
    have hsh : shareS l = TM.share (nds l) := by unfold shareS; rw [hmay]; rfl
    have hTx := small_text HS.out hmay
    have HW : Hid (∀ w1, Below w.heap.size w w1 → _) := Lib.hid fun w1 (hb : Below w.heap.size w w1) =>
      walk7_root A c (l.map conv) (by rw [List.length_map]; exact hc) (by rw [nds7_conv]; exact hM) (by rw [List.length_map]; omega) (by rw [List.length_map]; exact h0) (by rw [List.length_map, nds7_conv]; omega) w1 (by rw [List.length_map]; exact Kd.C_below HC.out hb)
    rw [List.length_map] at HW
    have HSH := Lib.hid hsh
    have HMAY := Lib.hid hmay
    clear hsh hmay hTx hM
    go_enter Tryd.func18, Tryd.ntmps18
    go_wp2_with fail
    refine (may7_any A c l w HC.out hc (by omega) HM.out).mono ?_
    rintro e w1 ⟨rfl, hb⟩
    rw [HMAY.out]
    have HB := Lib.hid hb
    clear hb
    go_wp2_with fail
    refine (HW.out w1 HB.out).mono ?_
    rintro e w2 ⟨TA, tc, OA, oc, out', rfl, hn, hx, ho, hb⟩
    rw [nds7_conv] at hn
    have HN := Lib.hid hn
    have HX := Lib.hid hx
    clear hn hx HW
    generalize ((TM.shr (nds7 (l.map conv)) l.length (l.length - 1) []).2 : Int) = r
    generalize strT (TM.T (nds7 (l.map conv)) (l.length - 1)) = U
    go_wp2
    go_ret
    exact ⟨OA, oc, out', rfl, by rw [HN.out, HSH.out], ho, HX.out, HB.out.trans (hb.mono HB.out.size)⟩
end Go.Proofs.YtlgnogpjmdhflaaDoor
