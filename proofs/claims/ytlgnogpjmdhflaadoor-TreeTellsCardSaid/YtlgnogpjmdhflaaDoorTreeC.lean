/- Size and Depth of tree: they answer what the plain facts say. -/
import Derived.Test.YtlgnogpjmdhflaaDoorTreeB
namespace Go.Proofs.YtlgnogpjmdhflaaDoor
open Go.RowKit Go.Proofs.YtlgnogpjmdhflaaDoorW.PrintWords Go.Proofs.YtlgnogpjmdhflaaDoorW.PrintLast Go.Proofs.YtlgnogpjmdhflaaDoorW.PrintMore Go.Proofs.YtlgnogpjmdhflaaDoor.PRef
attribute [local go_sem] max2_int min2_int max_two min_two max_three min_three max_four min_four
set_option linter.unusedVariables false
set_option linter.unusedSimpArgs false

theorem sum_take (xs : List Int) (j : Nat) (h : j < xs.length) : (xs.take (j + 1)).sum = (xs.take j).sum + rd xs j := by
  rw [List.take_succ_eq_append_getElem h, List.sum_append]
  simp [rd, List.getD_eq_getElem?_getD, List.getElem?_eq_getElem h]
theorem rd_mem (xs : List Int) (j : Nat) (h : j < xs.length) : rd xs j ∈ xs := by
  unfold rd
  rw [List.getD_eq_getElem?_getD]
  simp [List.getElem?_eq_getElem h]
theorem sum_nonneg : ∀ xs : List Int, (∀ x ∈ xs, 1 ≤ x) → 0 ≤ xs.sum := by
  intro xs
  induction xs with
  | nil => intro _; simp
  | cons a l ih => intro h; have h1 := h a (by simp); have h2 := ih fun x hx => h x (by simp [hx]); simp; omega
theorem sum_split (xs : List Int) (j : Nat) (h : ∀ x ∈ xs, 1 ≤ x) : (xs.take j).sum ≤ xs.sum := by
  have h2 := sum_nonneg (xs.drop j) fun x hx => h x (List.mem_of_mem_drop hx)
  have h3 : xs.sum = (xs.take j).sum + (xs.drop j).sum := by rw [← List.sum_append, List.take_append_drop]
  omega

def SizeP (xs : List Int) : Prop := ∀ x ∈ xs, 1 ≤ x ∧ x ≤ TM.top
/-- The sum so far, if it is none too great. -/
def SumIs (xs : List Int) (j : Nat) (n : Int) : Prop := n = 1 + (xs.take j).sum ∧ 1 ≤ n ∧ n ≤ TM.top

theorem sumIs_step {xs : List Int} {j : Nat} {n : Int} (hP : SizeP xs) (h : SumIs xs j n) (hj : j < xs.length) (hle : n ≤ TM.top - rd xs j) : SumIs xs (j + 1) (n + rd xs j) := by
  obtain ⟨h1, h2, h3⟩ := h
  have h4 := hP _ (rd_mem xs j hj)
  refine ⟨by rw [sum_take xs j hj]; omega, by omega, by omega⟩
theorem sumIs_out {xs : List Int} {j : Nat} {n : Int} (hP : SizeP xs) (h : SumIs xs j n) (hj : j < xs.length) (hgt : TM.top - rd xs j < n) : TM.sizeF 0 0 xs = TM.top := by
  obtain ⟨h1, h2, h3⟩ := h
  have h4 := sum_split xs (j + 1) (fun x hx => (hP x hx).1)
  rw [sum_take xs j hj] at h4
  unfold TM.sizeF
  omega
theorem sumIs_end {xs : List Int} {n : Int} (h : SumIs xs xs.length n) : TM.sizeF 0 0 xs = n := by
  obtain ⟨h1, h2, h3⟩ := h
  rw [List.take_length] at h1
  unfold TM.sizeF
  omega

set_option maxHeartbeats 1000000 in
set_option maxRecDepth 100000 in
theorem size1_folds : Folds 27 SizeP (TM.sizeF 0 0) := by
  intro W base ok v xs hO hb h64 hP
  obtain ⟨A, c, rfl, hc, hr⟩ := Kd.R_reads hO
  have HR := Lib.hid hr
  have HP := Lib.hid hP
  clear hO hr hP
  go_enter Tryd.func27, Tryd.ntmps27
  go_wp2_with fail
  go_loop [3, 5, 8] (fun n _ v => ∃ (j : Nat) (s : Int), j ≤ xs.length ∧ v = .int .i64 j ∧ n = .int .i64 s ∧ Hid (SumIs xs j s)) (fun _ _ v => xs.length - (intOf v).toNat)
  case atStart => exact ⟨0, 1, Nat.zero_le _, rfl, rfl, Lib.hid ⟨by simp, by omega, by unfold TM.top; omega⟩⟩
  case round =>
    obtain ⟨j, s, hj, rfl, rfl, hS⟩ := hrel
    by_cases hlt : j < xs.length
    · obtain ⟨ad, rfl, hck⟩ := Kd.at_int HR.out (j : Int) (by omega) (by omega)
      simp only [Int.toNat_natCast] at hck
      have hx := HP.out _ (rd_mem xs j hlt)
      have hs := hS.out.2
      have hstep := fun h => sumIs_step HP.out hS.out hlt h
      have hout := fun h => sumIs_out HP.out hS.out hlt h
      generalize rd xs j = x at hck hx hstep hout
      have HST := Lib.hid hstep
      have HOUT := Lib.hid hout
      clear hstep hout
      unfold TM.top at hx hs
      obtain ⟨hx1, hx2⟩ := hx
      obtain ⟨hs1, hs2⟩ := hs
      by_cases hgt : 9223372036854775807 - x < s
      · have HQ := Lib.hid (HOUT.out (by unfold TM.top; exact hgt))
        go_wp2_with fail
        go_ret
        exact ⟨by rw [HQ.out]; rfl, World.grownBy.refl _ _⟩
      · have HQ := Lib.hid (HST.out (by unfold TM.top; omega))
        go_wp2_with fail
        go_round
        case rel => exact ⟨j + 1, _, by omega, by go_num, rfl, HQ⟩
        case measure => simp [intOf]; omega
    · obtain rfl : j = xs.length := by omega
      have HQ := Lib.hid (sumIs_end hS.out)
      go_wp2_with fail
      go_ret
      exact ⟨by rw [HQ.out]; rfl, World.grownBy.refl _ _⟩

theorem maxL_snoc (xs : List Int) (x : Int) (h : ∀ a ∈ xs, 0 ≤ a) (hx : 0 ≤ x) : TM.maxL (xs ++ [x]) = max (TM.maxL xs) x := by
  induction xs with
  | nil => simp [TM.maxL]; omega
  | cons a l ih =>
    have h1 := ih fun y hy => h y (by simp [hy])
    unfold TM.maxL at h1 ⊢
    simp only [List.cons_append, List.foldr_cons, h1]
    omega
theorem maxL_zero (xs : List Int) (h : ∀ a ∈ xs, 0 ≤ a) : TM.maxL (xs ++ [0]) = TM.maxL xs := by
  rw [maxL_snoc xs 0 h (by omega)]
  have : 0 ≤ TM.maxL xs := by
    clear h
    induction xs with
    | nil => simp [TM.maxL]
    | cons a l ih => unfold TM.maxL at ih ⊢; simp only [List.foldr_cons]; omega
  omega
theorem maxL_take (xs : List Int) (j : Nat) (h : j < xs.length) (h0 : ∀ a ∈ xs, 0 ≤ a) : TM.maxL (xs.take (j + 1)) = max (TM.maxL (xs.take j)) (rd xs j) := by
  rw [List.take_succ_eq_append_getElem h, maxL_snoc _ _ (fun a ha => h0 a (List.mem_of_mem_take ha)) (h0 _ (List.getElem_mem h))]
  simp [rd, List.getD_eq_getElem?_getD, List.getElem?_eq_getElem h]

set_option maxHeartbeats 1000000 in
set_option maxRecDepth 100000 in
theorem max_any (A : Option Addr) (c : Nat) (xs : List Int) (w : World) (hr : (Kd.int .i64).C w A xs.length xs) (hl : xs.length ≤ c) (h0 : 0 < xs.length) (hp : ∀ a ∈ xs, 0 ≤ a) :
    Calls Tryd.prog 29 #[.slice A xs.length c] w fun e w' => e = .returned (.int .i64 (TM.maxL xs)) ∧ w = w' := by
  have hm : xs.length ≤ 9223372036854775807 := hr.2.1
  have HR := Lib.hid hr
  have HP := Lib.hid hp
  have e0 : decide ((xs.length : Int) < 1) = false := decide_eq_false (by omega)
  obtain ⟨ad, rfl, hc0⟩ := Kd.at_int hr 0 (by omega) (by omega)
  have hx0 := hp _ (rd_mem xs 0 h0)
  have ht := maxL_take xs 0 h0 hp
  simp only [Int.toNat_zero] at hc0
  rw [show ad.add 0 = ad from by unfold Addr.add; rfl] at hc0
  have ht2 : TM.maxL (xs.take 1) = rd xs 0 := by
    simp only [List.take_zero, Nat.zero_add] at ht
    rw [ht]
    have : TM.maxL [] = 0 := rfl
    rw [this]
    have h5 : rd xs ((0 : Nat) : Int) = rd xs 0 := rfl
    rw [h5] at hx0 ⊢
    omega
  clear hr hp ht hx0
  generalize rd xs 0 = x0 at hc0 ht2
  have HT := Lib.hid ht2
  clear ht2
  go_enter Tryd.func29, Tryd.ntmps29
  go_wp2_with fail
  go_loop [3, 4] (fun m v => ∃ (j : Nat) (s : Int), 1 ≤ j ∧ j ≤ xs.length ∧ v = .int .i64 j ∧ m = .int .i64 s ∧ Hid (s = TM.maxL (xs.take j))) (fun _ v => xs.length - (intOf v).toNat)
  case atStart => exact ⟨1, x0, by omega, by omega, rfl, rfl, Lib.hid HT.out.symm⟩
  case round =>
    obtain ⟨j, s, hj1, hj, rfl, rfl, hS⟩ := hrel
    by_cases hlt : j < xs.length
    · obtain ⟨ad', he, hck⟩ := Kd.at_int HR.out (j : Int) (by omega) (by omega)
      injection he with he
      subst he
      simp only [Int.toNat_natCast] at hck
      have hst := maxL_take xs j hlt HP.out
      rw [← hS.out] at hst
      generalize rd xs j = x at hck hst
      have HST := Lib.hid hst
      clear hst
      go_wp2_with fail
      all_goals
        go_round
        case rel => exact ⟨j + 1, _, by omega, by omega, by go_num, rfl, by rw [HST.out]; (first | rfl | (exact Lib.hid (by omega)) | (exact Lib.hid (by unfold mx; omega)) | (exact Lib.hid (by unfold mx; split <;> omega)))⟩
        case measure => simp [intOf]; omega
    · obtain rfl : j = xs.length := by omega
      rw [List.take_length] at hS
      go_wp2_with fail
      go_ret
      exact ⟨by rw [← hS.out]; rfl, rfl⟩

def DepthP (xs : List Int) : Prop := ∀ x ∈ xs, 0 ≤ x ∧ x ≤ 200000

set_option maxHeartbeats 1000000 in
set_option maxRecDepth 100000 in
theorem depth1_folds : Folds 28 DepthP (TM.depthF 0 0) := by
  intro W base ok v xs hO hb h64 hP
  obtain ⟨A, c, rfl, hc, hr⟩ := Kd.R_reads hO
  have hO' := Kd.R_mono hO (ok' := fun _ => True) (fun _ _ => trivial)
  have HO := Lib.hid hO'
  have HP := Lib.hid hP
  have hmx := (TM.maxL_bd xs 200000 (fun x hx => (hP x hx).2) (by omega))
  have hm2 := maxL_zero xs (fun a ha => (hP a ha).1)
  have hpos : ∀ a ∈ xs ++ [0], 0 ≤ a := by
    intro a ha
    rcases List.mem_append.1 ha with h | h
    · exact (hP a h).1
    · simp at h; omega
  have hd : TM.depthF 0 0 xs = 1 + TM.maxL xs := rfl
  have HPOS := Lib.hid hpos
  clear hO hr hP hO' hpos
  have hlx : xs.length ≤ 17592186044414 := by omega
  generalize TM.maxL xs = m at hmx hm2 hd
  have HM2 := Lib.hid hm2
  have HD := Lib.hid hd
  clear hm2 hd
  obtain ⟨hm0, hm1⟩ := hmx
  go_enter Tryd.func28, Tryd.ntmps28
  go_wp2_with (at_builtin; refine app_ints (w0 := W) base rfl (.tmp 3) (.tmp 4) rfl _ _ _ (fun _ => True) rfl rfl (fun _ _ => trivial) HO.out (Below.refl _ _) hb hlx ?_; intro v1 w4 hO1 hB1 hg1 hat1)
  obtain ⟨A1, c1, rfl, hc1, hr1⟩ := Kd.R_reads hO1
  have HG := Lib.hid hg1
  have HR1 := Lib.hid hr1
  have HC1 := Lib.hid hc1
  clear hO1 hB1 hg1 hat1 hr1 hc1
  go_wp2_with fail
  refine (max_any A1 c1 (xs ++ [0]) _ HR1.out HC1.out (by simp) HPOS.out).mono ?_
  rintro e w5 ⟨rfl, rfl⟩
  rw [HM2.out]
  go_wp2
  go_ret
  exact ⟨by rw [HD.out]; rfl, HG.out⟩

/-- The numbers of kids of a node that may be. -/
theorem kids_P (f : Int → Int → List Int → Int) (l : List S46) (hm : TM.Mays (nds l)) (Q : Int → Prop) (h : ∀ j, j < l.length → Q (TM.up f 0 (nds l) j)) (i : Nat) (hi : i < l.length) :
    ∀ x ∈ kidsN f (nds l) (rd_T46 l i).f2 (rd_T46 l i).f2.length, Q x := by
  intro x hx
  unfold kidsN at hx
  rw [List.take_length] at hx
  obtain ⟨k, hk, rfl⟩ := List.mem_map.1 hx
  have hk' := hm i (by rw [nds_length]; exact hi)
  rw [nd_nds l i hi] at hk'
  have := hk'.2 k hk
  exact h k.toNat (by omega)

/-- Size of any tree; 0 if it may not be. -/
def sizeOf (l : List S46) : Int := if mayB l then TM.size (nds l) else 0
def depthOf (l : List S46) : Int := if mayB l then TM.depth (nds l) else 0
def upOf (f : Int → Int → List Int → Int) (l : List S46) : Int := if mayB l then TM.up f 0 (nds l) (l.length - 1) else 0

set_option maxHeartbeats 1000000 in
set_option maxRecDepth 100000 in
/-- 'up' of a tree that may not be. -/
theorem up_no (g : Nat) (A : Option Addr) (c : Nat) (l : List S46) (w : World) (hr : k46.C w A l.length l) (hl : l.length ≤ c) (hmay : mayB l = false) :
    Calls Tryd.prog 26 #[.slice A l.length c, .func (.func g) #[] #[]] w fun e w' => e = .returned (.int .i64 0) ∧ Below w.heap.size w w' := by
  have HR := Lib.hid hr
  have HM := Lib.hid hmay
  clear hr hmay
  go_enter Tryd.func26, Tryd.ntmps26
  go_wp2_with fail
  refine (may_any A c l w HR.out hl).mono ?_
  rintro e w1 ⟨rfl, hb1⟩
  rw [HM.out]
  go_wp2_with fail
  go_ret
  exact ⟨rfl, hb1⟩

theorem upS_any (A : Option Addr) (c : Nat) (l : List S46) (w : World) (hr : k46.C w A l.length l) (hl : l.length ≤ c) :
    Calls Tryd.prog 26 #[.slice A l.length c, .func (.func 27) #[] #[]] w fun e w' => e = .returned (.int .i64 (sizeOf l)) ∧ Below w.heap.size w w' := by
  cases h : mayB l
  · unfold sizeOf
    rw [h]
    exact up_no _ A c l w hr hl h
  · obtain ⟨hm, h0, h1⟩ := (mayB_iff l).1 h
    refine (up_any _ TM.sizeF (TM.sizeF 0 0) SizeP (fun _ _ _ => rfl) A c l w hr hl h (.inl rfl) size1_folds ?_).mono ?_
    · exact fun i hi => kids_P TM.sizeF l hm _ (fun j hj => TM.size_pos hm j (by rw [nds_length]; exact hj)) i hi
    · rintro e w' ⟨rfl, hb⟩
      refine ⟨?_, hb⟩
      unfold sizeOf TM.size
      rw [h, nds_length]
      rfl

theorem upD_any (A : Option Addr) (c : Nat) (l : List S46) (w : World) (hr : k46.C w A l.length l) (hl : l.length ≤ c) :
    Calls Tryd.prog 26 #[.slice A l.length c, .func (.func 28) #[] #[]] w fun e w' => e = .returned (.int .i64 (depthOf l)) ∧ Below w.heap.size w w' := by
  cases h : mayB l
  · unfold depthOf
    rw [h]
    exact up_no _ A c l w hr hl h
  · obtain ⟨hm, h0, h1⟩ := (mayB_iff l).1 h
    refine (up_any _ TM.depthF (TM.depthF 0 0) DepthP (fun _ _ _ => rfl) A c l w hr hl h (.inr rfl) depth1_folds ?_).mono ?_
    · refine fun i hi => kids_P TM.depthF l hm (fun x => 0 ≤ x ∧ x ≤ 200000) (fun j hj => ?_) i hi
      have := TM.depth_bd hm j (by rw [nds_length]; exact hj)
      omega
    · rintro e w' ⟨rfl, hb⟩
      refine ⟨?_, hb⟩
      unfold depthOf TM.depth
      rw [h, nds_length]
      rfl

set_option maxHeartbeats 1000000 in
set_option maxRecDepth 100000 in
theorem size_any (A : Option Addr) (c : Nat) (l : List S46) (w : World) (hr : k46.C w A l.length l) (hl : l.length ≤ c) :
    Calls Tryd.prog 13 #[.slice A l.length c] w fun e w' => e = .returned (.int .i64 (sizeOf l)) ∧ Below w.heap.size w w' := by
  have HR := Lib.hid hr
  clear hr
  go_enter Tryd.func13, Tryd.ntmps13
  go_wp2_with fail
  refine (upS_any A c l _ HR.out hl).mono ?_
  rintro e w1 ⟨rfl, hb1⟩
  go_wp2_with fail
  go_ret
  exact ⟨rfl, hb1⟩

set_option maxHeartbeats 1000000 in
set_option maxRecDepth 100000 in
theorem depth_any (A : Option Addr) (c : Nat) (l : List S46) (w : World) (hr : k46.C w A l.length l) (hl : l.length ≤ c) :
    Calls Tryd.prog 14 #[.slice A l.length c] w fun e w' => e = .returned (.int .i64 (depthOf l)) ∧ Below w.heap.size w w' := by
  have HR := Lib.hid hr
  clear hr
  go_enter Tryd.func14, Tryd.ntmps14
  go_wp2_with fail
  refine (upD_any A c l _ HR.out hl).mono ?_
  rintro e w1 ⟨rfl, hb1⟩
  go_wp2_with fail
  go_ret
  exact ⟨rfl, hb1⟩
end Go.Proofs.YtlgnogpjmdhflaaDoor
