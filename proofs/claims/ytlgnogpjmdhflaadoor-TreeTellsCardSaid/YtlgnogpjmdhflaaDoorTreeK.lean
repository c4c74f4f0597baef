/- What Plant of tree asks of its kids. -/
import Derived.Test.YtlgnogpjmdhflaaDoorTreeJ
namespace Go.Proofs.YtlgnogpjmdhflaaDoor
open Go.RowKit Go.Proofs.YtlgnogpjmdhflaaDoorW.PrintWords Go.Proofs.YtlgnogpjmdhflaaDoorW.PrintLast Go.Proofs.YtlgnogpjmdhflaaDoorW.PrintMore Go.Proofs.YtlgnogpjmdhflaaDoor.PRef Go.Maps
set_option linter.unusedVariables false
set_option linter.unusedSimpArgs false

def kT : Kd (List S46) := Kd.slice 46 k46
def rdT (ts : List (List S46)) (j : Nat) : List S46 := ts.getD j []
theorem rdT_mem {ts : List (List S46)} {j : Nat} (h : j < ts.length) : rdT ts j ∈ ts := by
  unfold rdT
  simp [List.getD_eq_getElem?_getD, List.getElem?_eq_getElem h]
theorem at_T {w : World} {A : Option Addr} {n : Nat} {ts : List (List S46)} (h : kT.C w A n ts) (j : Nat) (h1 : j < n) : ∃ ad A2 c2, A = some ad ∧ w.cell? (ad.add j) = some (.slice A2 (rdT ts j).length c2) ∧ (rdT ts j).length ≤ c2 ∧ k46.C w A2 (rdT ts j).length (rdT ts j) := by
  obtain ⟨ad, c, e, _, ⟨A2, c2, rfl, hl, hC⟩, hc⟩ := Kd.C_get h [] (j : Int) (by omega) (by omega)
  simp only [Int.toNat_natCast] at hl hC hc
  refine ⟨ad, A2, c2, e, ?_, hl, hC⟩
  have h0 : w.cell? (ad.add (j * 1 + 0)) = some (.slice A2 (ts.getD j []).length c2) := hc 0 _ rfl
  rw [show j * 1 + 0 = j from by omega] at h0
  exact h0

set_option maxHeartbeats 4000000 in
set_option maxRecDepth 100000 in
theorem notMay_any (A : Option Addr) (c : Nat) (l : List S46) (w : World) (hC : k46.C w A l.length l) (hc : l.length ≤ c) :
    Calls Tryd.prog 35 #[.slice A l.length c] w fun e w' => e = .returned (.bool (!mayB l)) ∧ Below w.heap.size w w' := by
  have HC := Lib.hid hC
  clear hC
  go_enter Tryd.func35, Tryd.ntmps35
  go_wp2_with fail
  refine (may_any A c l w HC.out hc).mono ?_
  rintro e w1 ⟨rfl, hb1⟩
  go_wp2
  go_ret
  exact ⟨rfl, hb1⟩

def noneMay (ts : List (List S46)) : Bool := ts.any fun t => !mayB t
set_option maxHeartbeats 4000000 in
set_option maxRecDepth 100000 in
theorem indexFunc_any (A : Option Addr) (c : Nat) (ts : List (List S46)) (w : World) (hC : kT.C w A ts.length ts) (hc : ts.length ≤ c) :
    Calls Tryd.prog 42 #[.slice A ts.length c, .func (.func 35) #[] #[]] w fun e w' => ∃ r : Int, e = .returned (.int .i64 r) ∧ decide (r ≥ 0) = noneMay ts ∧ Below w.heap.size w w' := by
  have hm1 : ts.length ≤ 9223372036854775807 := hC.2.1
  have HC := Lib.hid hC
  clear hC
  go_enter Tryd.func42, Tryd.ntmps42
  go_wp2_with fail
  go_loopw [8] (fun v wr => ∃ j : Nat, j ≤ ts.length ∧ v = .int .i64 j ∧ Below w.heap.size w wr ∧ Hid (∀ i : Nat, i < j → mayB (rdT ts i) = true)) (fun v _ => ts.length - (intOf v).toNat)
  case atStart => exact ⟨0, Nat.zero_le _, rfl, Below.refl _ _, Lib.hid (fun i hi => by omega)⟩
  case round =>
    obtain ⟨j, hj, rfl, hB, HA⟩ := hrel
    by_cases hlt : j < ts.length
    · obtain ⟨ad, A2, c2, rfl, hn, hl, hC2⟩ := at_T HC.out j hlt
      replace hn := (hB.cell (World.block_lt_of_cell? w _ hn)).trans hn
      have hA2 : mayB (rdT ts j) = true → ∀ i : Nat, i < j + 1 → mayB (rdT ts i) = true := fun h i hi => by
        rcases Nat.lt_or_eq_of_le (Nat.le_of_lt_succ hi) with h' | rfl
        · exact HA.out i h'
        · exact h
      have hno : mayB (rdT ts j) = false → noneMay ts = true := fun h => by
        unfold noneMay
        rw [List.any_eq_true]
        exact ⟨_, rdT_mem hlt, by rw [h]; rfl⟩
      generalize rdT ts j = t at hn hl hC2 hA2 hno
      have HC2 := Lib.hid hC2
      have HA2 := Lib.hid hA2
      have HNO := Lib.hid hno
      clear hC2 hA2 hno
      go_wp2_with fail
      refine (notMay_any A2 c2 t wr (Kd.C_below HC2.out hB) hl).mono ?_
      rintro e w1 ⟨rfl, hb1⟩
      have hb2 := hB.trans (hb1.mono hB.size)
      cases hmt : mayB t with
      | false =>
        have hr := HNO.out hmt
        clear hb1 hmt
        go_wp2
        go_ret
        exact ⟨_, rfl, by rw [hr]; exact decide_eq_true (by omega), hb2⟩
      | true =>
        have hr := Lib.hid (HA2.out hmt)
        clear hb1 hmt
        go_wp2
        go_roundw
        case rel => exact ⟨j + 1, by omega, by go_num, hb2, hr⟩
        case measure => simp [intOf]; omega
    · obtain rfl : j = ts.length := by omega
      have hr : noneMay ts = false := by
        unfold noneMay
        rw [List.any_eq_false]
        intro t ht
        obtain ⟨i, hi, rfl⟩ := List.mem_iff_getElem.1 ht
        have := HA.out i hi
        unfold rdT at this
        simp [List.getD_eq_getElem?_getD, List.getElem?_eq_getElem hi] at this
        simp [this]
      go_wp2
      go_ret
      exact ⟨_, rfl, by rw [hr]; rfl, hB⟩

set_option maxHeartbeats 4000000 in
set_option maxRecDepth 100000 in
theorem contains_any (A : Option Addr) (c : Nat) (ts : List (List S46)) (w : World) (hC : kT.C w A ts.length ts) (hc : ts.length ≤ c) :
    Calls Tryd.prog 34 #[.slice A ts.length c, .func (.func 35) #[] #[]] w fun e w' => e = .returned (.bool (noneMay ts)) ∧ Below w.heap.size w w' := by
  have HC := Lib.hid hC
  clear hC
  go_enter Tryd.func34, Tryd.ntmps34
  go_wp2_with fail
  refine (indexFunc_any A c ts w HC.out hc).mono ?_
  rintro e w1 ⟨r, rfl, hr, hb⟩
  have HR := Lib.hid hr
  clear hr
  go_wp2
  go_ret
  exact ⟨by rw [← HR.out]; rfl, hb⟩

theorem kidsT_snoc (t : List TM.Nd) : ∀ (ts : List (List TM.Nd)) (out : List TM.Nd), TM.kidsT (ts ++ [t]) out = ((TM.shr t t.length (t.length - 1) (TM.kidsT ts out).1).1, (TM.kidsT ts out).2 ++ [((TM.shr t t.length (t.length - 1) (TM.kidsT ts out).1).2 : Int)]) := by
  intro ts
  induction ts with
  | nil => intro out; rfl
  | cons a ts ih =>
    intro out
    rw [List.cons_append, TM.kidsT, ih]
    simp [TM.kidsT]
end Go.Proofs.YtlgnogpjmdhflaaDoor
