/- Spans: Place, Has. -/
import Derived.Test.YteachgaabfaanaaSpB
import Derived.WalkMore
namespace Go.Proofs.Yteachgaabfaanaa
open Go.RowKit Go.Proofs.YteachgaabfaanaaW.PrintWords Go.Proofs.YteachgaabfaanaaW.PrintLast Go.Proofs.YteachgaabfaanaaW.PrintMore Go.Proofs.Yteachgaabfaanaa.PRef
set_option linter.unusedVariables false
set_option linter.unusedSimpArgs false

/-! ### A number's place -/
def placeGo : List S40 → Int → Int → Int
  | [], _, _ => -1
  | s :: l, v, n => if v < s.f0 then -1 else if v ≤ s.f1 then n + v - s.f0 else placeGo l v (n + (s.f1 - s.f0 + 1))
def placeB (l : List S40) (v : Int) : Int := if rightB l then placeGo l v 0 else -1
theorem go_drop (l : List S40) (i : Nat) (h : i < l.length) (v n : Int) : placeGo (l.drop i) v n = if v < (rd_T40 l i).f0 then -1 else if v ≤ (rd_T40 l i).f1 then n + v - (rd_T40 l i).f0 else placeGo (l.drop (i + 1)) v (n + ((rd_T40 l i).f1 - (rd_T40 l i).f0 + 1)) := by
  rw [rd_at l i h, List.drop_eq_getElem_cons h]
  rfl
def PInv (l : List S40) (v : Int) (j : Nat) (n : Int) : Prop := n = sizeTo l j ∧ placeGo (l.drop j) v n = placeGo l v 0

theorem sizeTo_le {l : List S40} (h : rightB l = true) (hl : l.length ≤ 1000) (j : Nat) (hj : j ≤ l.length) : 0 ≤ sizeTo l j ∧ sizeTo l j ≤ 3000000000 := by
  have := sizeTo_bd h j hj
  have : (j : Int) ≤ 1000 := by omega
  exact ⟨by omega, by omega⟩
set_option maxHeartbeats 4000000 in
set_option maxRecDepth 100000 in
theorem place_calls (A : Option Addr) (c : Nat) (l : List S40) (v : Int) (w : World) (hr : Kd.C k40 w A l.length l) (hc : l.length ≤ c) (hl : l.length ≤ 1000) (hv : -9000000000000 ≤ v ∧ v ≤ 9000000000000) :
    Calls Try.prog 18 #[.slice A l.length c, .int .i64 v] w fun e w' => e = .returned (.int .i64 (placeB l v)) ∧ Below w.heap.size w w' := by
  obtain ⟨kr, hkr⟩ := rightF l (by omega)
  have HK := Lib.hid hkr
  have HR := Lib.hid hr
  clear hr hkr
  cases hrb : rightB l
  · have HRB := Lib.hid hrb
    go_enter Try.func18, Try.ntmps18
    go_wp2_with fail
    repeat (go_step3; go_wp2_with fail)
    refine (spans_Right.calls kr A c l _ _ HR.out hc HK.out).mono ?_
    rintro e w' ⟨rfl, hB⟩
    rw [hrb]
    clear hrb
    go_wp2
    try simp only [Exit.noGoto_ret]
    go_ret
    exact ⟨by unfold placeB; rw [HRB.out]; rfl, hB⟩
  · have HRB := Lib.hid hrb
    go_enter Try.func18, Try.ntmps18
    go_wp2_with fail
    repeat (go_step3; go_wp2_with fail)
    refine (spans_Right.calls kr A c l _ _ HR.out hc HK.out).mono ?_
    rintro e w' ⟨rfl, hB⟩
    rw [hrb]
    clear hrb
    have HB := Lib.hid hB
    clear hB
    go_wp2_with fail
    repeat (go_step3; go_wp2_with fail)
    go_loopw [5, 13] (fun v5 v13 wr => ∃ (j : Nat) (n : Int), j ≤ l.length ∧ v13 = .int .i64 j ∧ v5 = .int .i64 n ∧ Hid (PInv l v j n) ∧ Below w.heap.size w wr) (fun _ v _ => l.length - (intOf v).toNat)
    case atStart => exact ⟨0, 0, Nat.zero_le _, rfl, rfl, Lib.hid ⟨rfl, rfl⟩, HB.out⟩
    case round =>
      obtain ⟨j, n, hj, rfl, rfl, hI, hBr⟩ := hrel
      by_cases hlt : j < l.length
      · obtain ⟨ad, rfl, hc0, hc1⟩ := at_T40 (Kd.C_below HR.out hBr) (j : Int) (by omega) (by omega)
        simp only [Int.toNat_natCast] at hc0 hc1
        have hbd := chain_bd HRB.out j hlt
        have hsz := sizeTo_le HRB.out hl j hj
        have hgo := go_drop l j hlt v n
        have hss := sizeTo_succ l j hlt
        obtain ⟨hI1, hI2⟩ := hI.out
        rw [← hI1] at hsz hss
        generalize hs : rd_T40 l (j : Int) = s at hc0 hc1 hbd hgo hss
        have HGO := Lib.hid hgo
        have HSS := Lib.hid hss
        have HI2 := Lib.hid hI2
        clear hgo hss hI2 hI1 hs hI
        have hw1 : wrap64 (n + v) = n + v := by unfold wrap64; omega
        have hw2 : wrap64 (n + v - s.f0) = n + v - s.f0 := by unfold wrap64; omega
        have hw3 : wrap64 (s.f1 - s.f0) = s.f1 - s.f0 := by unfold wrap64; omega
        have hw4 : wrap64 (s.f1 - s.f0 + 1) = s.f1 - s.f0 + 1 := by unfold wrap64; omega
        have hw5 : wrap64 (n + (s.f1 - s.f0 + 1)) = n + (s.f1 - s.f0 + 1) := by unfold wrap64; omega
        have hBa := below_alloc (Below.refl wr.heap.size wr) (.cells #[.int .i64 s.f0, .int .i64 s.f1] 40)
        have HBA := Lib.hid (hBr.trans (hBa.mono hBr.size))
        clear hBa
        by_cases c1 : v < s.f0
        · have d1 : decide (v < s.f0) = true := decide_eq_true c1
          go_wp2_with fail
          try simp only [Exit.noGoto_ret]
          go_ret
          refine ⟨?_, HBA.out⟩
          unfold placeB
          rw [HRB.out, ← HI2.out, HGO.out, if_pos c1]
          rfl
        · have d1 : decide (v < s.f0) = false := decide_eq_false c1
          by_cases c2 : v ≤ s.f1
          · have d2 : decide (v ≤ s.f1) = true := decide_eq_true c2
            go_wp2_with fail
            try simp only [Exit.noGoto_ret]
            go_ret
            refine ⟨?_, HBA.out⟩
            unfold placeB
            rw [HRB.out, ← HI2.out, HGO.out, if_neg (show ¬ v < s.f0 by omega), if_pos (show v ≤ s.f1 by omega)]
            rfl
          · have d2 : decide (v ≤ s.f1) = false := decide_eq_false c2
            go_wp2_with fail
            refine ⟨⟨j + 1, n + (s.f1 - s.f0 + 1), by omega, by go_num, rfl, Lib.hid ⟨HSS.out.symm, ?_⟩, HBA.out⟩, ?_⟩
            · rw [← HI2.out, HGO.out, if_neg (show ¬ v < s.f0 by omega), if_neg (show ¬ v ≤ s.f1 by omega)]
            · simp [intOf]; omega
      · obtain rfl : j = l.length := by omega
        go_wp2_with fail
        try simp only [Exit.noGoto_ret]
        go_ret
        refine ⟨?_, hBr⟩
        unfold placeB
        rw [HRB.out, ← hI.out.2, List.drop_length]
        rfl
/-! ### Has -/
theorem placeGo_has : ∀ (l : List S40) (lo : Int) (v n : Int), chainB lo (sps l) = true → 0 ≤ n → decide (placeGo l v n ≥ 0) = SM.inB (sps l) v := by
  intro l
  induction l with
  | nil => intro lo v n _ _; rfl
  | cons s l ih =>
    intro lo v n hc hn
    show decide (placeGo (s :: l) v n ≥ 0) = SM.inB (sp s :: sps l) v
    rw [inB_sp]
    have hc' : chainB lo (sp s :: sps l) = true := hc
    rw [chainB_sp] at hc'
    simp only [Bool.and_eq_true, decide_eq_true_eq] at hc'
    obtain ⟨⟨⟨h1, h2⟩, h3⟩, h4⟩ := hc'
    unfold placeGo
    by_cases c1 : v < s.f0
    · rw [if_pos c1]
      have hin : SM.inB (sps l) v = false := by
        have := ih (s.f1 + 1) v 0 h4 (by omega)
        rw [← this]
        cases l with
        | nil => rfl
        | cons t l =>
          have h4' : chainB (s.f1 + 1) (sp t :: sps l) = true := h4
          rw [chainB_sp] at h4'
          simp only [Bool.and_eq_true, decide_eq_true_eq] at h4'
          unfold placeGo
          rw [if_pos (by omega)]
          rfl
      rw [hin, decide_eq_false (show ¬ s.f0 ≤ v by omega)]
      rfl
    · rw [if_neg c1]
      by_cases c2 : v ≤ s.f1
      · rw [if_pos c2, decide_eq_true (show s.f0 ≤ v by omega), decide_eq_true c2, decide_eq_true (by omega)]
        rfl
      · rw [if_neg c2, ih (s.f1 + 1) v _ h4 (by omega), decide_eq_false c2, Bool.and_false, Bool.false_or]
theorem place_has {l : List S40} (h : rightB l = true) (v : Int) : decide (placeB l v ≥ 0) = SM.inB (sps l) v := by
  unfold placeB
  rw [if_pos h]
  exact placeGo_has l _ v 0 h (by omega)
def hasB (l : List S40) (v : Int) : Bool := decide (placeB l v ≥ 0)

set_option maxHeartbeats 4000000 in
set_option maxRecDepth 100000 in
theorem has_calls (A : Option Addr) (c : Nat) (l : List S40) (v : Int) (w : World) (hr : Kd.C k40 w A l.length l) (hc : l.length ≤ c) (hl : l.length ≤ 1000) (hv : -9000000000000 ≤ v ∧ v ≤ 9000000000000) :
    Calls Try.prog 20 #[.slice A l.length c, .int .i64 v] w fun e w' => e = .returned (.bool (hasB l v)) ∧ Below w.heap.size w w' := by
  have HR := Lib.hid hr
  clear hr
  go_enter Try.func20, Try.ntmps20
  go_wp2_with fail
  refine (place_calls A c l v _ HR.out hc hl hv).mono ?_
  rintro e w' ⟨rfl, hB⟩
  go_wp2
  go_ret
  exact ⟨rfl, hB⟩
end Go.Proofs.Yteachgaabfaanaa
