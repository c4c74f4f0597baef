/- May of tree, and what it calls: which answers they come to. -/
import Derived.Test.YtlgnogpjmdhflaaDoorPRefx
import Derived.Test.YtlgnogpjmdhflaaDoorTreeMath
import Derived.Lib.Hide
import Derived.WalkLawsBesides
import Derived.WalkSpells
namespace Go.Proofs.YtlgnogpjmdhflaaDoor
open Go.RowKit Go.Proofs.YtlgnogpjmdhflaaDoorW.PrintWords Go.Proofs.YtlgnogpjmdhflaaDoorW.PrintLast Go.Proofs.YtlgnogpjmdhflaaDoorW.PrintMore Go.Proofs.YtlgnogpjmdhflaaDoor.PRef
set_option linter.unusedVariables false
set_option linter.unusedSimpArgs false

/-- A kid that may not be, of the node i. -/
def badK (i k : Int) : Bool := decide (k < 0) || decide (i ≤ k)

theorem may1_any (k i : Int) (B : Nat) (w : World) (hc : w.cell? ⟨B, 0, none⟩ = some (.int .i64 i)) :
    Calls Tryd.prog 25 #[.int .i64 k, .pointer (some ⟨B, 0, none⟩)] w fun e w' => e = .returned (.bool (badK i k)) ∧ w = w' := by
  by_cases h : k < 0
  · have hk : decide (k < 0) = true := by simpa using h
    go_enter Tryd.func25, Tryd.ntmps25
    go_wp2
    go_ret
    exact ⟨by simp [badK, h], rfl⟩
  · have hk : decide (k < 0) = false := by simpa using h
    go_enter Tryd.func25, Tryd.ntmps25
    go_wp2
    go_ret
    exact ⟨by simp [badK, hk], rfl⟩

theorem any_take (xs : List Int) (p : Int → Bool) (k : Nat) (h : k < xs.length) : (xs.take (k + 1)).any p = ((xs.take k).any p || p (rd xs k)) := by
  rw [List.take_succ_eq_append_getElem h, List.any_append]
  simp [rd, List.getD_eq_getElem?_getD, List.getElem?_eq_getElem h]
theorem any_of_rd (xs : List Int) (p : Int → Bool) (k : Nat) (h : k < xs.length) (hp : p (rd xs k) = true) : xs.any p = true := by
  rw [List.any_eq_true]
  refine ⟨_, List.getElem_mem h, ?_⟩
  simpa [rd, List.getD_eq_getElem?_getD, List.getElem?_eq_getElem h] using hp

def SomeIdx (p : Bool) (w : World) (e : Ending) (w' : World) : Prop := ∃ r : Int, e = .returned (.int .i64 r) ∧ decide (0 ≤ r) = p ∧ w = w'

theorem idxMay_any (A : Option Addr) (c : Nat) (xs : List Int) (i : Int) (B : Nat) (w : World) (hr : (Kd.int .i64).C w A xs.length xs) (hl : xs.length ≤ c) (hc : w.cell? ⟨B, 0, none⟩ = some (.int .i64 i)) :
    Calls Tryd.prog 38 #[.slice A xs.length c, .func (.func 25) #[] #[.pointer (some ⟨B, 0, none⟩)]] w (SomeIdx (xs.any (badK i)) w) := by
  have hm : xs.length ≤ 9223372036854775807 := hr.2.1
  have HR := Lib.hid hr
  clear hr
  go_enter Tryd.func38, Tryd.ntmps38
  go_wp2_with fail
  go_loop [5, 8] (fun a v => ∃ k : Nat, k ≤ xs.length ∧ v = .int .i64 k ∧ Hid ((xs.take k).any (badK i) = false)) (fun _ v => xs.length - (intOf v).toNat)
  case atStart => exact ⟨0, Nat.zero_le _, rfl, Lib.hid (by simp)⟩
  case round =>
    obtain ⟨k, hk, rfl, hn⟩ := hrel
    by_cases hlt : k < xs.length
    · obtain ⟨ad, rfl, hcell⟩ := Kd.at_int HR.out (k : Int) (by omega) (by omega)
      have hcell' : w.cell? (ad.add k) = some (.int .i64 (rd xs k)) := by simpa using hcell
      clear hcell
      have hb : (xs.take (k + 1)).any (badK i) = ((xs.take k).any (badK i) || badK i (rd xs k)) := any_take xs (badK i) k hlt
      have hall : badK i (rd xs k) = true → xs.any (badK i) = true := fun h => any_of_rd xs (badK i) k hlt h
      generalize rd xs k = x at hcell' hb hall
      have HB := Lib.hid hb
      have HA := Lib.hid hall
      clear hb hall
      cases hbk : badK i x
      all_goals
        go_wp2_with fail
        refine (may1_any x i B w hc).mono ?_
        rintro e w' ⟨rfl, rfl⟩
        rw [hbk]
        have HK := Lib.hid hbk
        clear hbk
        go_wp2
      · go_round
        case rel => exact ⟨k + 1, by omega, by go_num, Lib.hid (by rw [HB.out, hn.out, HK.out]; rfl)⟩
        case measure => simp [intOf]; omega
      · go_ret
        exact ⟨k, rfl, by rw [HA.out HK.out]; simp, rfl⟩
    · obtain rfl : k = xs.length := by omega
      rw [List.take_length] at hn
      go_wp2
      go_ret
      exact ⟨-1, rfl, by rw [hn.out]; rfl, rfl⟩

theorem containsMay_any (A : Option Addr) (c : Nat) (xs : List Int) (i : Int) (B : Nat) (w : World) (hr : (Kd.int .i64).C w A xs.length xs) (hl : xs.length ≤ c) (hc : w.cell? ⟨B, 0, none⟩ = some (.int .i64 i)) :
    Calls Tryd.prog 24 #[.slice A xs.length c, .func (.func 25) #[] #[.pointer (some ⟨B, 0, none⟩)]] w fun e w' => e = .returned (.bool (xs.any (badK i))) ∧ w = w' := by
  have HR := Lib.hid hr
  clear hr
  go_enter Tryd.func24, Tryd.ntmps24
  go_wp2_with fail
  refine (idxMay_any A c xs i B w HR.out hl hc).mono ?_
  rintro e w' ⟨r, rfl, hp, rfl⟩
  cases hq : xs.any (badK i)
  all_goals
    rw [hq] at hp
    have HQ := Lib.hid hq
    clear hq
    go_wp2
    go_ret
    exact ⟨by rw [HQ.out]; rfl, rfl⟩

/-- May a node stand at a place? -/
def okB (i : Int) (n : S46) : Bool := TM.fitsB n.f0 n.f1 n.f2.length && !n.f2.any (badK i)
def okN (l : List S46) (i : Nat) : Bool := okB i (rd_T46 l i)
def mayB (l : List S46) : Bool := !decide (l.length = 0) && !decide (100000 < l.length) && (List.range l.length).all (okN l)

theorem all_range (p : Nat → Bool) (k : Nat) : (List.range (k + 1)).all p = ((List.range k).all p && p k) := by
  rw [List.range_succ, List.all_append]
  simp

theorem mayB_no (l : List S46) (k : Nat) (hk : k < l.length) (h : okN l k = false) : mayB l = false := by
  unfold mayB
  have : (List.range l.length).all (okN l) = false := by
    rw [List.all_eq_false]
    exact ⟨k, by simpa using hk, by rw [h]; simp⟩
  rw [this, Bool.and_false]
theorem cell_first (w : World) (v : Value) (t : TypeId) (o : Obj) : ((w.alloc (.cells #[v] t)).alloc o).cell? ⟨w.heap.size, 0, none⟩ = some v := by
  rw [World.cell?_alloc_lt _ _ _ (by simp)]
  exact cell_of_row (w.alloc (.cells #[v] t)) w.heap.size 0 #[v] t (0, 0) (heap_alloc_new w _)

theorem fits0 (n : Nat) : TM.fitsB 0 0 n = ((n : Int) == 0) := by simp only [TM.fitsB]; cases n <;> simp <;> omega
theorem fits1 (p : Int) (n : Nat) (h : 0 ≤ p) (h' : p ≤ 63) : TM.fitsB 1 p n = ((n : Int) == 1) := by
  simp only [TM.fitsB, decide_eq_true h, decide_eq_true h', Bool.and_true, Bool.true_and]
  rw [Bool.eq_iff_iff]
  simp
  omega
theorem fits2 (n : Nat) (h : 1 ≤ (n : Int)) : TM.fitsB 2 0 n = decide ((n : Int) ≤ 64) := by
  rw [Bool.eq_iff_iff]
  simp [TM.fitsB]
  omega
theorem fits_any (k p : Int) (n : Nat) (w : World) :
    Calls Tryd.prog 23 #[.int .i64 k, .int .i64 p, .int .i64 n] w fun e w' => e = .returned (.bool (TM.fitsB k p n)) ∧ w = w' := by
  by_cases h0 : k = 0
  · subst h0
    by_cases h1 : p = 0
    · subst h1
      have HF := Lib.hid (fits0 n)
      go_enter Tryd.func23, Tryd.ntmps23
      go_wp2
      go_ret
      exact ⟨by rw [HF.out]; rfl, rfl⟩
    · have hp : (p == 0) = false := beq_eq_false_iff_ne.2 h1
      have hf : TM.fitsB 0 p n = false := by simp [TM.fitsB, h1]
      have HF := Lib.hid hf
      clear hf h1
      go_enter Tryd.func23, Tryd.ntmps23
      go_wp2
      go_ret
      exact ⟨by rw [HF.out]; rfl, rfl⟩
  · by_cases h1 : k = 1
    · subst h1
      by_cases h2 : 0 ≤ p
      · by_cases h3 : p ≤ 63
        · have HF := Lib.hid (fits1 p n h2 h3)
          have d2 := decide_eq_true h2
          have d3 := decide_eq_true h3
          clear h2 h3
          go_enter Tryd.func23, Tryd.ntmps23
          go_wp2
          go_ret
          exact ⟨by rw [HF.out]; rfl, rfl⟩
        · have hf : TM.fitsB 1 p n = false := by simp [TM.fitsB, h3]
          have HF := Lib.hid hf
          have d2 := decide_eq_true h2
          have d3 := decide_eq_false h3
          clear hf h2 h3
          go_enter Tryd.func23, Tryd.ntmps23
          go_wp2
          go_ret
          exact ⟨by rw [HF.out]; rfl, rfl⟩
      · have hf : TM.fitsB 1 p n = false := by simp [TM.fitsB, h2]
        have HF := Lib.hid hf
        have d2 := decide_eq_false h2
        clear hf h2
        go_enter Tryd.func23, Tryd.ntmps23
        go_wp2
        go_ret
        exact ⟨by rw [HF.out]; rfl, rfl⟩
    · have k0 : (k == 0) = false := beq_eq_false_iff_ne.2 h0
      have k1 : (k == 1) = false := beq_eq_false_iff_ne.2 h1
      by_cases h2 : k = 2
      · subst h2
        by_cases h3 : p = 0
        · subst h3
          by_cases h4 : 1 ≤ (n : Int)
          · have HF := Lib.hid (fits2 n h4)
            have d4 := decide_eq_true h4
            clear h4 k0 k1 h0 h1
            go_enter Tryd.func23, Tryd.ntmps23
            go_wp2
            go_ret
            exact ⟨by rw [HF.out]; rfl, rfl⟩
          · have hf : TM.fitsB 2 0 n = false := by simp [TM.fitsB]; omega
            have HF := Lib.hid hf
            have d4 := decide_eq_false h4
            clear hf h4 k0 k1 h0 h1
            go_enter Tryd.func23, Tryd.ntmps23
            go_wp2
            go_ret
            exact ⟨by rw [HF.out]; rfl, rfl⟩
        · have hp : (p == 0) = false := beq_eq_false_iff_ne.2 h3
          have hf : TM.fitsB 2 p n = false := by simp [TM.fitsB, h3]
          have HF := Lib.hid hf
          clear hf h3 k0 k1 h0 h1
          go_enter Tryd.func23, Tryd.ntmps23
          go_wp2
          go_ret
          exact ⟨by rw [HF.out]; rfl, rfl⟩
      · have k2 : (k == 2) = false := beq_eq_false_iff_ne.2 h2
        have hf : TM.fitsB k p n = false := by simp [TM.fitsB, h0, h1, h2]
        have HF := Lib.hid hf
        clear hf h0 h1 h2
        go_enter Tryd.func23, Tryd.ntmps23
        go_wp2
        go_ret
        exact ⟨by rw [HF.out]; rfl, rfl⟩

set_option maxHeartbeats 1000000 in
theorem may_any (A : Option Addr) (c : Nat) (l : List S46) (w : World) (hr : k46.C w A l.length l) (hl : l.length ≤ c) :
    Calls Tryd.prog 12 #[.slice A l.length c] w fun e w' => e = .returned (.bool (mayB l)) ∧ Below w.heap.size w w' := by
  have hm : l.length ≤ 9223372036854775807 := hr.2.1
  have HR := Lib.hid hr
  clear hr
  by_cases h0 : l.length = 0
  · have e0 : ((l.length : Int) == 0) = true := beq_iff_eq.2 (by omega)
    have hf : mayB l = false := by simp [mayB, h0]
    have HF := Lib.hid hf
    clear hf
    go_enter Tryd.func12, Tryd.ntmps12
    go_wp2
    go_ret
    exact ⟨by rw [HF.out]; rfl, Below.refl _ _⟩
  · by_cases h1 : 100000 < l.length
    · have e0 : ((l.length : Int) == 0) = false := beq_eq_false_iff_ne.2 (by omega)
      have e1 : decide ((100000 : Int) < l.length) = true := decide_eq_true (by omega)
      have hf : mayB l = false := by simp [mayB, h1]
      have HF := Lib.hid hf
      clear hf
      go_enter Tryd.func12, Tryd.ntmps12
      go_wp2
      go_ret
      exact ⟨by rw [HF.out]; rfl, Below.refl _ _⟩
    · have e0 : ((l.length : Int) == 0) = false := beq_eq_false_iff_ne.2 (by omega)
      have e1 : decide ((100000 : Int) < l.length) = false := decide_eq_false (by omega)
      go_enter Tryd.func12, Tryd.ntmps12
      go_wp2_with fail
      go_loopw [3, 4, 15] (fun _ _ v wr => ∃ k : Nat, k ≤ l.length ∧ v = .int .i64 k ∧ Hid ((List.range k).all (okN l) = true) ∧ Below w.heap.size w wr) (fun _ _ v _ => l.length - (intOf v).toNat)
      case atStart => exact ⟨0, Nat.zero_le _, rfl, Lib.hid (by simp), Below.refl _ _⟩
      case round =>
        obtain ⟨k, hk, rfl, hn, hB⟩ := hrel
        by_cases hlt : k < l.length
        · obtain ⟨ad, A2, c2, rfl, hc0, hc1, hc2, hl2, hi2⟩ := at_T46 (Kd.C_below HR.out hB) (k : Int) (by omega) (by omega)
          simp only [Int.toNat_natCast] at hc0 hc1 hc2
          have hok : okN l k = (TM.fitsB (rd_T46 l k).f0 (rd_T46 l k).f1 (rd_T46 l k).f2.length && !(rd_T46 l k).f2.any (badK k)) := rfl
          have hno : okN l k = false → mayB l = false := mayB_no l k (by omega)
          have hB2 := below_alloc (below_alloc (Below.refl wr.heap.size wr) (.cells #[.int .i64 (k : Int)] 3)) (.cells #[.int .i64 (rd_T46 l k).f0, .int .i64 (rd_T46 l k).f1, .slice A2 (rd_T46 l k).f2.length c2] 46)
          have hk2 := Kd.C_below hi2 hB2
          have hBe := hB.trans (hB2.mono hB.size)
          have hcB := cell_first wr (.int .i64 (k : Int)) 3 (.cells #[.int .i64 (rd_T46 l k).f0, .int .i64 (rd_T46 l k).f1, .slice A2 (rd_T46 l k).f2.length c2] 46)
          generalize rd_T46 l k = n at hc0 hc1 hc2 hl2 hi2 hok hB2 hk2 hBe hcB
          have HOK := Lib.hid hok
          have HNO := Lib.hid hno
          have HI := Lib.hid hi2
          have HB2 := Lib.hid hB2
          have HK2 := Lib.hid hk2
          have HBE := Lib.hid hBe
          have HCB := Lib.hid hcB
          clear hok hno hi2 hB2 hk2 hBe hcB
          cases hf : TM.fitsB n.f0 n.f1 n.f2.length
          · have HF := Lib.hid hf
            go_wp2_with fail
            refine (fits_any n.f0 n.f1 n.f2.length _).mono ?_
            rintro e w' ⟨rfl, rfl⟩
            rw [hf]
            clear hf
            go_wp2
            go_ret
            exact ⟨by rw [HNO.out (by rw [HOK.out, HF.out]; rfl)]; rfl, HBE.out⟩
          · have HF := Lib.hid hf
            cases hb : n.f2.any (badK k)
            all_goals
              have HBB := Lib.hid hb
              go_wp2_with fail
              refine (fits_any n.f0 n.f1 n.f2.length _).mono ?_
              rintro e w' ⟨rfl, rfl⟩
              rw [hf]
              clear hf
              go_wp2_with fail
              refine (containsMay_any A2 c2 n.f2 k wr.heap.size _ HK2.out hl2 HCB.out).mono ?_
              rintro e w' ⟨rfl, rfl⟩
              rw [hb]
              clear hb
              go_wp2
            · go_roundw
              case rel => exact ⟨k + 1, by omega, by go_num, Lib.hid (by rw [all_range, hn.out, HOK.out, HF.out, HBB.out]; rfl), HBE.out⟩
              case measure => simp [intOf]; omega
            · go_ret
              exact ⟨by rw [HNO.out (by rw [HOK.out, HF.out, HBB.out]; rfl)]; rfl, HBE.out⟩
        · obtain rfl : k = l.length := by omega
          go_wp2
          go_ret
          exact ⟨by unfold mayB; rw [hn.out, decide_eq_false h0, decide_eq_false h1]; rfl, hB⟩
end Go.Proofs.YtlgnogpjmdhflaaDoor
