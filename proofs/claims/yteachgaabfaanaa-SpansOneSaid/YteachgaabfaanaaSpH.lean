/- Spans: parts. -/
import Derived.Test.YteachgaabfaanaaSpG
namespace Go.Proofs.Yteachgaabfaanaa
open Go.RowKit Go.Proofs.YteachgaabfaanaaW.PrintWords Go.Proofs.YteachgaabfaanaaW.PrintLast Go.Proofs.YteachgaabfaanaaW.PrintMore Go.Proofs.Yteachgaabfaanaa.PRef
set_option linter.unusedVariables false
set_option linter.unusedSimpArgs false

/-- A function value of two bools that tells K. -/
def Keeps (g : Nat) (K : Bool → Bool → Bool) : Prop := ∀ (x y : Bool) (w : World), Calls Try.prog g #[.bool x, .bool y] w fun e w' => e = .returned (.bool (K x y)) ∧ Below w.heap.size w w'
theorem keeps_union : Keeps 22 (fun x y => x || y) := by
  intro x y w
  cases x <;> cases y
  all_goals
    go_enter Try.func22, Try.ntmps22
    go_wp2
    go_ret
    exact ⟨rfl, Below.refl _ _⟩
theorem keeps_meet : Keeps 23 (fun x y => x && y) := by
  intro x y w
  cases x <;> cases y
  all_goals
    go_enter Try.func23, Try.ntmps23
    go_wp2
    go_ret
    exact ⟨rfl, Below.refl _ _⟩
theorem keeps_less : Keeps 24 (fun x y => x && !y) := by
  intro x y w
  cases x <;> cases y
  all_goals
    go_enter Try.func24, Try.ntmps24
    go_wp2
    go_ret
    exact ⟨rfl, Below.refl _ _⟩

theorem two_row (w : World) (x y : Int) : Kd.C (Kd.int .i64) (w.alloc (.cells #[.int .i64 x, .int .i64 y] 3)) (some ⟨w.heap.size, 0, none⟩) 2 [x, y] := by
  have h2 := World.ownsRow_lit (base := 0) (e := 3) (size := 1) w #[.int .i64 x, .int .i64 y] 2 (Nat.zero_le _) (by unfold maxLen; omega) rfl
  exact (Kd.R_reads' (IR_of (ok := fun _ => True) (zs := [x, y]) h2 (fun _ _ => trivial))).2.2
theorem ends_snoc (l : List S40) (j : Nat) (h : j < l.length) : SM.endsOf (sps (l.take (j + 1))) = SM.endsOf (sps (l.take j)) ++ [(rd_T40 l j).f0, (rd_T40 l j).f1 + 1] := by
  rw [List.take_succ_eq_append_getElem h, rd_at l j h]
  unfold sps
  rw [List.map_append]
  unfold SM.endsOf
  rw [List.flatMap_append]
  rfl
theorem ends_length (l : List S40) : (SM.endsOf (sps l)).length = 2 * l.length := by
  induction l with
  | nil => rfl
  | cons s l ih =>
    have : (SM.endsOf (sps (s :: l))).length = 2 + (SM.endsOf (sps l)).length := by simp [SM.endsOf, sps]; omega
    rw [this, ih, List.length_cons]
    omega
/-- Of two right lists behind one another each span is within bounds. -/
theorem cat_bd {a b : List S40} (ha : rightB a = true) (hb : rightB b = true) (j : Nat) (h : j < (a ++ b).length) : -1048576 ≤ (rd_T40 (a ++ b) (j : Int)).f0 ∧ (rd_T40 (a ++ b) (j : Int)).f0 ≤ (rd_T40 (a ++ b) (j : Int)).f1 ∧ (rd_T40 (a ++ b) (j : Int)).f1 ≤ 1048576 := by
  rw [rd_at _ j h, List.getElem_append]
  split
  · next h1 =>
    have := chain_bd ha j h1
    rw [rd_at a j h1] at this
    exact this
  · next h1 =>
    have hl : j - a.length < b.length := by rw [List.length_append] at h; omega
    have := chain_bd hb (j - a.length) hl
    rw [rd_at b _ hl] at this
    exact this

theorem endsM_bd {a b : List S40} (ha : rightB a = true) (hb : rightB b = true) (j : Nat) (h : j < (SM.endsM (sps a) (sps b)).length) : -1048576 ≤ rd (SM.endsM (sps a) (sps b)) (j : Int) ∧ rd (SM.endsM (sps a) (sps b)) (j : Int) ≤ 1048577 := by
  have e : rd (SM.endsM (sps a) (sps b)) (j : Int) = (SM.endsM (sps a) (sps b))[j] := by
    unfold rd
    simp [List.getD_eq_getElem?_getD, List.getElem?_eq_getElem h]
  rw [e]
  have key : ∀ {l : List S40} {v : Int}, rightB l = true → v ∈ SM.endsOf (sps l) → -1048576 ≤ v ∧ v ≤ 1048577 := by
    intro l v hl hv
    obtain ⟨s, hs, hv⟩ := SM.mem_ends.1 hv
    have := SM.chain_mem ((rightB_iff l).1 hl) s hs
    unfold SM.M at this
    rcases hv with rfl | rfl <;> omega
  rcases ((SM.endsM_spec (sps a) (sps b)).2 _).1 (List.getElem_mem h) with h1 | h1
  · exact key ha h1
  · exact key hb h1
def PB (l : List S40) : Prop := ∀ p ∈ l, -4611686018427387904 ≤ p.f1 ∧ p.f1 ≤ 4611686018427387903
theorem pb_put {l : List S40} {s : S40} (h : PB l) (hs : -4611686018427387904 ≤ s.f1 ∧ s.f1 ≤ 4611686018427387903) : PB (putS l s) := by
  cases hp : l.getLast? with
  | none =>
    rw [List.getLast?_eq_none_iff] at hp
    subst hp
    intro p hp
    rw [putS_nil, List.mem_singleton] at hp
    subst hp
    exact hs
  | some q =>
    have hq := h q (List.mem_of_getLast? hp)
    by_cases hc : s.f0 ≤ q.f1 + 1
    · rw [putS_join hp hc]
      unfold lastHigh
      rw [hp]
      intro p hp'
      simp only [List.mem_append, List.mem_singleton] at hp'
      rcases hp' with hp' | rfl
      · exact h p (List.dropLast_subset _ hp')
      · simp only; omega
    · rw [putS_new hp hc]
      intro p hp'
      simp only [List.mem_append, List.mem_singleton] at hp'
      rcases hp' with hp' | rfl
      · exact h p hp'
      · exact hs
theorem putS_length (l : List S40) (s : S40) : (putS l s).length ≤ l.length + 1 := by
  have h2 := putM_length (sps l) (sp s)
  rw [sps_length] at h2
  unfold putS
  rw [unsps_length]
  exact h2
/-- How far the kept ones are put. -/
def BInv (f : Int → Bool) (es : List Int) (j : Nat) (l : List S40) : Prop := SM.buildM f (es.drop j) (sps l) = SM.buildM f es [] ∧ PB l ∧ l.length ≤ j
theorem drop_rd (es : List Int) (j : Nat) (h : j < es.length) : es.drop j = rd es (j : Int) :: es.drop (j + 1) := by
  rw [List.drop_eq_getElem_cons h]
  congr 1
  unfold rd
  simp [List.getD_eq_getElem?_getD, List.getElem?_eq_getElem h]
theorem binv_keep {f : Int → Bool} {es : List Int} {j : Nat} {l : List S40} (h : BInv f es j l) (hj : j + 1 < es.length) (hf : f (rd es (j : Int)) = true) (hb : -1048576 ≤ rd es ((j + 1 : Nat) : Int) ∧ rd es ((j + 1 : Nat) : Int) ≤ 1048577) : BInv f es (j + 1) (putS l ⟨rd es (j : Int), rd es ((j + 1 : Nat) : Int) - 1⟩) := by
  obtain ⟨h1, h2, h3⟩ := h
  refine ⟨?_, pb_put h2 (by simp only; omega), ?_⟩
  · rw [← h1, drop_rd es j (by omega), drop_rd es (j + 1) hj, sps_putS, SM.buildM, if_pos hf]
    rfl
  · have := putS_length l ⟨rd es (j : Int), rd es ((j + 1 : Nat) : Int) - 1⟩
    omega
theorem binv_skip {f : Int → Bool} {es : List Int} {j : Nat} {l : List S40} (h : BInv f es j l) (hj : j + 1 < es.length) (hf : f (rd es (j : Int)) = false) : BInv f es (j + 1) l := by
  obtain ⟨h1, h2, h3⟩ := h
  refine ⟨?_, h2, by omega⟩
  rw [← h1, drop_rd es j (by omega), drop_rd es (j + 1) hj, SM.buildM, if_neg (by rw [hf]; decide)]
theorem binv_last {f : Int → Bool} {es : List Int} {j : Nat} {l : List S40} (h : BInv f es j l) (hj : j + 1 = es.length) : BInv f es (j + 1) l := by
  obtain ⟨h1, h2, h3⟩ := h
  refine ⟨?_, h2, by omega⟩
  rw [← h1, drop_rd es j (by omega), List.drop_eq_nil_of_le (by omega), SM.buildM, SM.buildM]
  · intro x y r h; cases h
  · intro x y r h; cases h
theorem binv_end {f : Int → Bool} {es : List Int} {l : List S40} (h : BInv f es es.length l) : l = unsps (SM.buildM f es []) := by
  rw [← h.1, List.drop_eq_nil_of_le (Nat.le_refl _), SM.buildM]
  · exact (unsps_sps l).symm
  · intro x y r h; cases h

def partsB (K : Bool → Bool → Bool) (a b : List S40) : List S40 := if rightB a && rightB b then unsps (SM.partsM K (sps a) (sps b)) else []
set_option maxHeartbeats 4000000 in
set_option maxRecDepth 100000 in
theorem parts_not (g : Nat) (K : Bool → Bool → Bool) (A : Option Addr) (c : Nat) (a : List S40) (B : Option Addr) (d : Nat) (b : List S40) (w : World) (hA : Kd.C k40 w A a.length a) (hca : a.length ≤ c) (hB : Kd.C k40 w B b.length b) (hcb : b.length ≤ d) (hla : a.length ≤ 1000) (hlb : b.length ≤ 1000) (h : (rightB a && rightB b) = false) :
    Calls Try.prog 21 #[.slice A a.length c, .slice B b.length d, .func (.func g) #[] #[]] w fun e w' => ∃ v, e = .returned v ∧ k40.R 40 w' w.heap.size (fun _ => True) v [] ∧ Below w.heap.size w w' := by
  obtain ⟨ka, hka⟩ := rightF a (by omega)
  obtain ⟨kb, hkb⟩ := rightF b (by omega)
  have HA := Lib.hid hA
  have HB := Lib.hid hB
  have HKA := Lib.hid hka
  have HKB := Lib.hid hkb
  clear hA hB hka hkb
  cases hra : rightB a
  · go_enter Try.func21, Try.ntmps21
    go_wp2_with fail
    refine (spans_Right.calls ka A c a _ _ HA.out hca HKA.out).mono ?_
    rintro e w1 ⟨rfl, hb1⟩
    rw [hra]
    go_wp2
    go_ret
    exact ⟨_, rfl, Kd.R_nil _ _ _ _ _, hb1⟩
  · have hrb : rightB b = false := by rw [hra] at h; simpa using h
    go_enter Try.func21, Try.ntmps21
    go_wp2_with fail
    refine (spans_Right.calls ka A c a _ _ HA.out hca HKA.out).mono ?_
    rintro e w1 ⟨rfl, hb1⟩
    rw [hra]
    go_wp2_with fail
    refine (spans_Right.calls kb B d b _ _ (Kd.C_below HB.out hb1) hcb HKB.out).mono ?_
    rintro e w2 ⟨rfl, hb2⟩
    rw [hrb]
    go_wp2
    go_ret
    exact ⟨_, rfl, Kd.R_nil _ _ _ _ _, hb1.trans (hb2.mono hb1.size)⟩

set_option maxHeartbeats 4000000 in
set_option maxRecDepth 100000 in
theorem parts_yes (g : Nat) (K : Bool → Bool → Bool) (hK : Keeps g K) (hent : ∀ (args : Array Value) (w : World), (callFunc g args).run Try.prog w = .ok (.enter g args) w) (A : Option Addr) (c : Nat) (a : List S40) (B : Option Addr) (d : Nat) (b : List S40) (w : World) (hA : Kd.C k40 w A a.length a) (hca : a.length ≤ c) (hB : Kd.C k40 w B b.length b) (hcb : b.length ≤ d) (hla : a.length ≤ 1000) (hlb : b.length ≤ 1000) (hra : rightB a = true) (hrb : rightB b = true) :
    Calls Try.prog 21 #[.slice A a.length c, .slice B b.length d, .func (.func g) #[] #[]] w fun e w' => ∃ v, e = .returned v ∧ k40.R 40 w' w.heap.size (fun _ => True) v (unsps (SM.partsM K (sps a) (sps b))) ∧ Below w.heap.size w w' := by
  obtain ⟨ka, hka⟩ := rightF a (by omega)
  obtain ⟨kb, hkb⟩ := rightF b (by omega)
  have HA := Lib.hid hA
  have HB := Lib.hid hB
  have HKA := Lib.hid hka
  have HKB := Lib.hid hkb
  have HRA := Lib.hid hra
  have HRB := Lib.hid hrb
  clear hA hB hka hkb
  go_enter Try.func21, Try.ntmps21
  go_wp2_with fail
  refine (spans_Right.calls ka A c a _ _ HA.out hca HKA.out).mono ?_
  rintro e w1 ⟨rfl, hb1⟩
  rw [hra]
  go_wp2_with fail
  refine (spans_Right.calls kb B d b _ _ (Kd.C_below HB.out hb1) hcb HKB.out).mono ?_
  rintro e w2 ⟨rfl, hb2⟩
  rw [hrb]
  clear hra hrb
  have hb12 := hb1.trans (hb2.mono hb1.size)
  have HB12 := Lib.hid hb12
  clear hb1 hb2 hb12
  go_wp2_with fail
  have hba := below_alloc (Below.refl w2.heap.size w2) (.cells #[.slice A a.length c, .slice B b.length d] 22)
  have hblk := heap_alloc_new w2 (.cells #[.slice A a.length c, .slice B b.length d] 22)
  have hq0 : (w2.alloc (.cells #[.slice A a.length c, .slice B b.length d] 22)).cell? ⟨w2.heap.size, 0, none⟩ = some (.slice A a.length c) := by rw [cell_of_row _ w2.heap.size 0 _ _ _ hblk]; rfl
  have hq1 : (w2.alloc (.cells #[.slice A a.length c, .slice B b.length d] 22)).cell? ⟨w2.heap.size, 1, none⟩ = some (.slice B b.length d) := by rw [cell_of_row _ w2.heap.size 1 _ _ _ hblk]; rfl
  have hBA := HB12.out.trans (hba.mono HB12.out.size)
  refine (concat_calls A c a B d b w2.heap.size _ (Kd.C_below HA.out hBA) (Kd.C_below HB.out hBA) hla hlb hq0 hq1).mono ?_
  rintro e w3 ⟨vc, rfl, hcat, hb3⟩
  have hb13 := hBA.trans (hb3.mono hBA.size)
  obtain ⟨CA, cc, rfl, hcc, hCC⟩ := Kd.R_reads hcat
  clear hq0 hq1 hblk hba hBA hb3 hcat HB12
  have HB13 := Lib.hid hb13
  have HCC := Lib.hid hCC
  have hab : (a ++ b).length = a.length + b.length := List.length_append
  clear hb13 hCC
  have hbd := fun j h => cat_bd HRA.out HRB.out j h
  have hend : SM.endsM (sps a) (sps b) = Lib.compact (SM.sortM (SM.endsOf (sps (a ++ b)))) := by
    unfold SM.endsM sps
    rw [List.map_append]
  have HEND := Lib.hid hend
  have HBD := Lib.hid hbd
  clear hend hbd
  have hsl : (a ++ b).length ≤ 2000 := by omega
  clear hab
  generalize a ++ b = s at HCC hcc hsl HEND HBD ⊢
  go_wp2_with fail
  go_loopw [7, 26] (fun v7 v26 wr => ∃ j : Nat, j ≤ s.length ∧ v26 = .int .i64 j ∧ Hid (IR wr w3.heap.size (fun _ => True) v7 (SM.endsOf (sps (s.take j)))) ∧ Hid (Below w3.heap.size w3 wr)) (fun _ v _ => s.length - (intOf v).toNat)
  case atStart => exact ⟨0, Nat.zero_le _, rfl, Lib.hid (Kd.R_nil _ _ _ _ _), Lib.hid (Below.refl _ _)⟩
  case round =>
    obtain ⟨j, hj, rfl, hR, hBr⟩ := hrel
    by_cases hlt : j < s.length
    · obtain ⟨ad, rfl, hc0, hc1⟩ := at_T40 (Kd.C_below HCC.out hBr.out) (j : Int) (by omega) (by omega)
      simp only [Int.toNat_natCast] at hc0 hc1
      have hb := HBD.out j hlt
      have hsn := ends_snoc s j hlt
      have hlen := ends_length (s.take j)
      have htl : (s.take j).length = j := by rw [List.length_take]; omega
      rw [htl] at hlen
      generalize rd_T40 s (j : Int) = x at hc0 hc1 hb hsn
      have hw : wrap64 (x.f1 + 1) = x.f1 + 1 := by unfold wrap64; omega
      have HSN := Lib.hid hsn
      have HLE := Lib.hid hlen
      clear hsn hlen htl
      obtain ⟨EA, ec, rfl, hec, _⟩ := Kd.R_reads hR.out
      rw [HLE.out] at hec hR ⊢
      have hT := two_row (wr.alloc (.cells #[.int .i64 x.f0, .int .i64 x.f1] 40)) x.f0 (x.f1 + 1)
      have hba := below_alloc (below_alloc (Below.refl wr.heap.size wr) (.cells #[.int .i64 x.f0, .int .i64 x.f1] 40)) (.cells #[.int .i64 x.f0, .int .i64 (x.f1 + 1)] 3)
      have hsz : (wr.alloc (.cells #[.int .i64 x.f0, .int .i64 x.f1] 40)).heap.size = wr.heap.size + 1 := World.size_alloc _ _
      rw [hsz] at hT
      have HT := Lib.hid hT
      have HR2 := Lib.hid (Kd.R_below hR.out hba)
      have HBA := Lib.hid (hBr.out.trans (hba.mono hBr.out.size))
      clear hT hba hsz
      go_wp2_with (at_builtin; refine Kd.R_append_rows (Kd.int .i64) (Rr := fun (x : Int) cs => cs = [Value.int .i64 x]) (w0 := w3) w3.heap.size rfl (.tmp 30) (.tmp 36) 26 3 (.int .i64 0) 8 rfl Try.underlying26 infoInt rfl (by decide) (by decide) _ (SM.endsOf (sps (s.take j))) [x.f0, x.f1 + 1] (some ⟨wr.heap.size + 1, 0, none⟩) 2 2 (fun _ => True) (fun _ => False) rfl rfl HR2.out HT.out (fun x cs h => h) (fun _ hk => hk.elim) (fun _ _ => trivial) HBA.out HBA.out.size (by rw [HLE.out]; omega) ?_; intro v1 w1 hO1 hB1 hg1 hat1)
      refine ⟨⟨j + 1, by omega, by go_num, Lib.hid (by rw [HSN.out]; exact hO1), Lib.hid hB1⟩, ?_⟩
      simp [intOf]; omega
    · obtain rfl : j = s.length := by omega
      have hR1 := hR.out
      rw [List.take_length] at hR1
      have hlen := ends_length s
      have hbw := HB13.out.trans (hBr.out.mono HB13.out.size)
      have HBW := Lib.hid hbw
      clear hbw hR
      go_wp2_with fail
      refine (sort_calls _ _ _ _ _ hR1 (by omega)).mono ?_
      rintro e w4 ⟨rfl, hR4, hg4⟩
      have hl4 := sortM_length (SM.endsOf (sps s))
      have hb4 := hBr.out.grown hg4 hBr.out.size (fun k hk => Kd.R_base hR1 k hk)
      go_wp2_with fail
      refine (compact_calls _ _ _ _ _ hR4 (by omega)).mono ?_
      rintro e w5 ⟨v5, rfl, hR5, hg5, _⟩
      have hl5 := compact_length (SM.sortM (SM.endsOf (sps s)))
      have hb5 := hb4.grown hg5 hb4.size (fun k hk => Kd.R_base hR4 k hk)
      have hle : (Lib.compact (SM.sortM (SM.endsOf (sps s)))).length ≤ 4000 := by omega
      rw [← HEND.out] at hR5 hle
      obtain ⟨EA, ec, rfl, hec, hEC⟩ := Kd.R_reads hR5
      have hbw5 := HB13.out.trans (hb5.mono HB13.out.size)
      have HBW5 := Lib.hid hbw5
      have HEC := Lib.hid hEC
      clear hR1 hR4 hg4 hg5 hR5 hl4 hl5 hb4 hb5 hlen HBW hbw5 hEC
      have hEB := endsM_bd HRA.out HRB.out
      have HEB := Lib.hid hEB
      have hpm : SM.buildM (fun v => K (SM.inB (sps a) v) (SM.inB (sps b) v)) (SM.endsM (sps a) (sps b)) [] = SM.partsM K (sps a) (sps b) := rfl
      have HPM := Lib.hid hpm
      have hpa := fun v => place_has HRA.out v
      have hpb := fun v => place_has HRB.out v
      have HPA := Lib.hid hpa
      have HPB := Lib.hid hpb
      clear hEB hpm hpa hpb HEND
      generalize SM.endsM (sps a) (sps b) = es at HEC hec hle HEB HPM ⊢
      generalize hF : (fun v => K (SM.inB (sps a) v) (SM.inB (sps b) v)) = F at HPM
      have hFv : ∀ v, K (hasB a v) (hasB b v) = F v := fun v => by
        rw [← hF]
        unfold hasB
        rw [HPA.out v, HPB.out v]
      have HFV := Lib.hid hFv
      clear hFv hF HPA HPB
      go_wp2_with fail
      go_loopw [10, 45] (fun v10 v45 wr => ∃ (j : Nat) (l : List S40), j ≤ es.length ∧ v45 = .int .i64 j ∧ Hid (BInv F es j l) ∧ Hid (k40.R 40 wr w5.heap.size (fun _ => True) v10 l) ∧ Hid (Below w5.heap.size w5 wr)) (fun _ v _ => es.length - (intOf v).toNat)
      case atStart => exact ⟨0, [], Nat.zero_le _, rfl, Lib.hid ⟨rfl, fun p hp => (by simp at hp), Nat.le_refl _⟩, Lib.hid (Kd.R_nil _ _ _ _ _), Lib.hid (Below.refl _ _)⟩
      case round =>
        obtain ⟨j, l, hj, rfl, hI, hR, hBr⟩ := hrel
        obtain ⟨wq, hwq⟩ : ∃ x, x = wr := ⟨_, rfl⟩
        subst hwq
        have hw1 : wrap64 ((j : Int) + 1) = ((j + 1 : Nat) : Int) := w64 (by omega)
        by_cases hlt : j < es.length
        · obtain ⟨ad, rfl, hc0⟩ := Kd.at_int (Kd.C_below HEC.out hBr.out) (j : Int) (by omega) (by omega)
          simp only [Int.toNat_natCast] at hc0
          have hb0 := HEB.out j hlt
          by_cases hlt1 : j + 1 < es.length
          · have hd : decide (((j + 1 : Nat) : Int) < (es.length : Int)) = true := decide_eq_true (by omega)
            obtain ⟨ad2, had2, hc1⟩ := Kd.at_int (Kd.C_below HEC.out hBr.out) ((j + 1 : Nat) : Int) (by omega) (by omega)
            injection had2 with had2
            subst had2
            simp only [Int.toNat_natCast] at hc1
            have hb1 := HEB.out (j + 1) hlt1
            have hkp := binv_keep hI.out hlt1
            have hsk := binv_skip hI.out hlt1
            generalize rd es (j : Int) = x at hc0 hb0 hkp hsk
            generalize rd es ((j + 1 : Nat) : Int) = y at hc1 hb1 hkp
            have hw2 : wrap64 (y - 1) = y - 1 := by unfold wrap64; omega
            have HKP := Lib.hid hkp
            have HSK := Lib.hid hsk
            clear hkp hsk
            have hbw := HBW5.out.trans (hBr.out.mono HBW5.out.size)
            have HA9 := Lib.hid (Kd.C_below HA.out hbw)
            have HB9 := Lib.hid (Kd.C_below HB.out hbw)
            clear hbw
            go_wp2_with fail
            refine (has_calls A c a x _ HA9.out hca hla (by omega)).mono ?_
            rintro e w6 ⟨rfl, hb6⟩
            go_wp2_with fail
            refine (has_calls B d b x _ (Kd.C_below HB9.out hb6) hcb hlb (by omega)).mono ?_
            rintro e w7 ⟨rfl, hb7⟩
            have hb67 := hb6.trans (hb7.mono hb6.size)
            clear hb6 hb7
            go_wp2_with fail
            refine (hK (hasB a x) (hasB b x) _).mono ?_
            rintro e w8 ⟨rfl, hb8⟩
            have hb68 := hb67.trans (hb8.mono hb67.size)
            have hBq := hBr.out.trans (hb68.mono hBr.out.size)
            have HBQ := Lib.hid hBq
            have HRQ := Lib.hid (Kd.R_below hR.out hb68)
            have HC1 := Lib.hid (cell_w hb68 hc1)
            clear hb67 hb8 hb68 hBq
            rw [HFV.out x]
            cases hfx : F x
            · have HFX := Lib.hid hfx
              clear hfx
              go_wp2_with fail
              refine ⟨⟨j + 1, l, by omega, by go_num, Lib.hid (HSK.out HFX.out), Lib.hid HRQ.out, Lib.hid HBQ.out⟩, ?_⟩
              simp [intOf]; omega
            · have HFX := Lib.hid hfx
              have hc9 := HC1.out
              have had : ad.add (j + 1) = ⟨ad.block, ad.off + (j + 1), none⟩ := by unfold Addr.add; simp
              rw [had] at hc9
              clear had
              have hPB := hI.out.2.1
              have hLL := hI.out.2.2
              have HPBL := Lib.hid hPB
              have HLLL := Lib.hid hLL
              clear hfx hPB hLL
              go_wp2_with fail
              refine (put_any w5.heap.size (fun _ => True) _ l ⟨x, y - 1⟩ _ HPBL.out (by have := HLLL.out; omega) HRQ.out (fun _ _ => trivial) HBQ.out.size).mono ?_
              rintro e w9 ⟨v9, rfl, hR9, hg9, _⟩
              go_wp2_with fail
              refine ⟨⟨j + 1, putS l ⟨x, y - 1⟩, by omega, by go_num, Lib.hid (HKP.out HFX.out hb1), Lib.hid hR9, Lib.hid (HBQ.out.grown hg9 HBQ.out.size (fun k hk => Kd.R_base HRQ.out k hk))⟩, ?_⟩
              simp [intOf]; omega
          · have hd : decide (((j + 1 : Nat) : Int) < (es.length : Int)) = false := decide_eq_false (by omega)
            have hla2 := binv_last hI.out (by omega)
            have HLA := Lib.hid hla2
            clear hla2
            generalize rd es (j : Int) = x at hc0 hb0
            go_wp2_with fail
            refine ⟨⟨j + 1, l, by omega, by go_num, Lib.hid HLA.out, Lib.hid hR.out, Lib.hid hBr.out⟩, ?_⟩
            simp [intOf]; omega
        · obtain rfl : j = es.length := by omega
          have he := binv_end hI.out
          rw [HPM.out] at he
          have hR1 := hR.out
          rw [he] at hR1
          have HR1 := Lib.hid hR1
          have hbw := HBW5.out.trans (hBr.out.mono HBW5.out.size)
          have HBF := Lib.hid hbw
          clear hR1 he hbw hI hR
          go_wp2_with fail
          go_ret
          exact ⟨_, rfl, Kd.R_lower HR1.out HBW5.out.size, HBF.out⟩
end Go.Proofs.Yteachgaabfaanaa
