/- up, Size and Depth of tree: which answers they come to. -/
import Derived.Test.YtlgnogpjmdhflaaDoorTreeA
namespace Go.Proofs.YtlgnogpjmdhflaaDoor
open Go.RowKit Go.Proofs.YtlgnogpjmdhflaaDoorW.PrintWords Go.Proofs.YtlgnogpjmdhflaaDoorW.PrintLast Go.Proofs.YtlgnogpjmdhflaaDoorW.PrintMore Go.Proofs.YtlgnogpjmdhflaaDoor.PRef
set_option linter.unusedVariables false
set_option linter.unusedSimpArgs false

/-! ### Nodes as the plain facts have them -/
def ndOf (n : S46) : TM.Nd := (n.f0, n.f1, n.f2)
def nds (l : List S46) : List TM.Nd := l.map ndOf
theorem nds_length (l : List S46) : (nds l).length = l.length := List.length_map _
theorem nd_nds (l : List S46) (i : Nat) (h : i < l.length) : TM.nd (nds l) i = ndOf (rd_T46 l i) := by
  unfold TM.nd nds rd_T46
  simp [List.getD_eq_getElem?_getD, List.getElem?_eq_getElem h]
theorem mayB_iff (l : List S46) : mayB l = true ↔ TM.Mays (nds l) ∧ 0 < l.length ∧ l.length ≤ 100000 := by
  unfold mayB
  simp only [Bool.and_eq_true, Bool.not_eq_true', decide_eq_false_iff_not, List.all_eq_true, List.mem_range, Nat.not_lt]
  have key : ∀ i, i < l.length → (okN l i = true ↔ TM.ok i (TM.nd (nds l) i)) := by
    intro i hi
    rw [nd_nds l i hi]
    unfold okN okB TM.ok ndOf badK
    simp only [Bool.and_eq_true, Bool.not_eq_true', List.any_eq_false, Bool.or_eq_true, decide_eq_true_eq, not_or, Int.not_lt, Int.not_le]
  constructor
  · rintro ⟨⟨h0, h1⟩, h2⟩
    refine ⟨fun i hi => ?_, by omega, h1⟩
    rw [nds_length] at hi
    exact (key i hi).1 (h2 i hi)
  · rintro ⟨h, h0, h1⟩
    exact ⟨⟨by omega, h1⟩, fun i hi => (key i hi).2 (h i (by rw [nds_length]; exact hi))⟩

/-- What a function of numbers of kids does: it answers F of them; what it writes is their row alone, and what is new. -/
def Folds (g : Nat) (P : List Int → Prop) (F : List Int → Int) : Prop := ∀ (W : World) (base : Nat) (ok : Nat → Prop) (v : Value) (xs : List Int), (Kd.int .i64).R 3 W base ok v xs → base ≤ W.heap.size → xs.length ≤ 64 → P xs →
    Calls Tryd.prog g #[v] W fun e w' => e = .returned (.int .i64 (F xs)) ∧ W.grownBy w' v.ownBlock

theorem kids_of (l : List S46) (hm : TM.Mays (nds l)) (k : Nat) (hk : k < l.length) : (rd_T46 l k).f2.length ≤ 64 ∧ ∀ j : Nat, j < (rd_T46 l k).f2.length → 0 ≤ rd (rd_T46 l k).f2 j ∧ rd (rd_T46 l k).f2 j < k := by
  have h := hm k (by rw [nds_length]; exact hk)
  rw [nd_nds l k hk] at h
  refine ⟨(TM.fits_bd h.1).2.2, fun j hj => ?_⟩
  refine h.2 _ ?_
  unfold rd ndOf
  simp [List.getD_eq_getElem?_getD, List.getElem?_eq_getElem hj]

/-- The numbers of the first kids of a node. -/
def kidsN (f : Int → Int → List Int → Int) (t : List TM.Nd) (ks : List Int) (j : Nat) : List Int := (ks.take j).map fun k => TM.up f 0 t k.toNat
theorem kidsN_succ (f : Int → Int → List Int → Int) (t : List TM.Nd) (ks : List Int) (j : Nat) (h : j < ks.length) : kidsN f t ks (j + 1) = kidsN f t ks j ++ [TM.up f 0 t (rd ks j).toNat] := by
  unfold kidsN
  rw [List.take_succ_eq_append_getElem h, List.map_append]
  simp [rd, List.getD_eq_getElem?_getD, List.getElem?_eq_getElem h]

theorem R_open {α : Type} {d : Kd α} {e : Nat} {w : World} {base : Nat} {ok : Nat → Prop} {A : Option Addr} {n c : Nat} {xs : List α} (h : d.R e w base ok (.slice A n c) xs) : n = xs.length ∧ n ≤ c ∧ d.C w A n xs := by
  obtain ⟨A', c', he, hl, hr⟩ := Kd.R_reads h
  injection he with h1 h2 h3
  subst h1 h2 h3
  exact ⟨rfl, hl, hr⟩

theorem rd_upN (f : Int → Int → List Int → Int) (t : List TM.Nd) (k : Nat) (i : Int) (h0 : 0 ≤ i) (h1 : i < k) : rd (TM.upN f 0 t k) i = TM.up f 0 t i.toNat := by
  unfold rd
  exact TM.up_of k i.toNat (by omega)

/-- 'append(xs, p)' onto a row of whole numbers of the call's own. -/
theorem app_ints {ops : Array Oper} {rest : List Oper} {o : Oper} {a : Act} {Q : Exit → Act → World → Prop} {w0 W : World} (base : Nat) (hgd : o.guard = none) (s x : Operand)
    (ho : o.op = .call { callee := .builtin .append, args := #[s, x], argTypes := #[29, 29] }) (v : Value) (xs : List Int) (p : Int) (ok : Nat → Prop) (hs : a.eval s = v) (hx : a.eval x = .slice (some ⟨W.heap.size, 0, none⟩) 1 1)
    (hfresh : ∀ k, W.heap.size ≤ k → ok k) (HO : (Kd.int .i64).R 3 W base ok v xs) (HB : Below base w0 W) (hbase : base ≤ W.heap.size) (hl : xs.length ≤ 17592186044414)
    (h : ∀ v1 w1, (Kd.int .i64).R 3 w1 base ok v1 (xs ++ [p]) → Below base w0 w1 → W.grownBy w1 v.ownBlock → (v1.ownBlock = v.ownBlock ∨ ∃ b, v1.ownBlock = some b ∧ W.heap.size ≤ b) → wpList Tryd.prog ops Q rest (a.put o.dst v1) w1) :
    wpList Tryd.prog ops Q (o :: rest) a (W.alloc (.cells #[.int .i64 p] 3)) :=
  Kd.R_append (Kd.int .i64) (w0 := w0) base hgd s x 29 3 (.int .i64 0) 8 ho Tryd.underlying29 info3 rfl (by decide) (by omega) v xs p [.int .i64 p] ok (fun _ => False) hs hx rfl (fun _ hk => hk.elim) hfresh HO HB hbase (by omega) h

set_option maxHeartbeats 2000000 in
set_option maxRecDepth 100000 in
theorem up_any (g : Nat) (f : Int → Int → List Int → Int) (F : List Int → Int) (P : List Int → Prop) (hf : ∀ a b ks, f a b ks = F ks) (A : Option Addr) (c : Nat) (l : List S46) (w : World) (hr : k46.C w A l.length l) (hl : l.length ≤ c)
    (hmay : mayB l = true) (hgg : g = 27 ∨ g = 28) (hg : Folds g P F) (hP : ∀ i, i < l.length → P (kidsN f (nds l) (rd_T46 l i).f2 (rd_T46 l i).f2.length)) :
    Calls Tryd.prog 26 #[.slice A l.length c, .func (.func g) #[] #[]] w fun e w' => e = .returned (.int .i64 (TM.up f 0 (nds l) (l.length - 1))) ∧ Below w.heap.size w w' := by
  rcases hgg with rfl | rfl
  all_goals
    have hm : l.length ≤ 9223372036854775807 := hr.2.1
    obtain ⟨hms, hl0, hl1⟩ := (mayB_iff l).1 hmay
    have HR := Lib.hid hr
    have HM := Lib.hid hmay
    have HMS := Lib.hid hms
    have HG := Lib.hid hg
    have HP := Lib.hid hP
    have HF := Lib.hid hf
    clear hr hmay hms hg hP hf
    go_enter Tryd.func26, Tryd.ntmps26
    go_wp2_with fail
    refine (may_any A c l w HR.out hl).mono ?_
    rintro e w1 ⟨rfl, hb1⟩
    rw [HM.out]
    have hR1 := Kd.C_below HR.out hb1
    have HR1 := Lib.hid hR1
    have hs1 := hb1.size
    clear hR1
    go_wp2_with fail
    go_loopw [5, 7, 8, 10, 16] (fun v5 _ _ _ v wr => ∃ k : Nat, k ≤ l.length ∧ v = .int .i64 k ∧ (Kd.int .i64).R 3 wr w.heap.size (fun _ => True) v5 (TM.upN f 0 (nds l) k) ∧ Below w.heap.size w wr) (fun _ _ _ _ v _ => l.length - (intOf v).toNat)
    case atStart => exact ⟨0, Nat.zero_le _, rfl, Kd.R_nil _ _ _ _ _, hb1⟩
    case round =>
      obtain ⟨k, hk, rfl, hO5, hB⟩ := hrel
      by_cases hlt : k < l.length
      · obtain ⟨ad, A2, c2, rfl, hc0, hc1, hc2, hl2, hi2⟩ := at_T46 HR.out (k : Int) (by omega) (by omega)
        simp only [Int.toNat_natCast] at hc0 hc1 hc2
        replace hc0 := (hB.cell (World.block_lt_of_cell? w _ hc0)).trans hc0
        replace hc1 := (hB.cell (World.block_lt_of_cell? w _ hc1)).trans hc1
        replace hc2 := (hB.cell (World.block_lt_of_cell? w _ hc2)).trans hc2
        obtain ⟨hk64, hkk⟩ := kids_of l HMS.out k hlt
        have hPk := HP.out k hlt
        have hup := TM.up_eq (f := f) (d := (0 : Int)) (t := nds l) k (by have := (HMS.out k (by rw [nds_length]; exact hlt)).2; exact this)
        rw [nd_nds l k hlt] at hup
        generalize hn : rd_T46 l k = n at hc0 hc1 hc2 hl2 hi2 hk64 hkk hPk hup
        have HN := Lib.hid hn
        have HI := Lib.hid hi2
        have HKK := Lib.hid hkk
        have HPK := Lib.hid hPk
        have HUP := Lib.hid hup
        clear hn hi2 hkk hPk hup
        obtain ⟨A5, c5, hv5, _, _⟩ := Kd.R_reads hO5
        rw [TM.upN_length] at hv5
        subst hv5
        have HO5 := Lib.hid hO5
        clear hO5
        go_wp2_with fail
        go_loopw [8, 10, 23] (fun v8 _ v wq => ∃ j : Nat, j ≤ n.f2.length ∧ v = .int .i64 j ∧ Hid ((Kd.int .i64).R 3 wq w.heap.size (fun b => some b ≠ (Value.slice A5 k c5).ownBlock) v8 (kidsN f (nds l) n.f2 j)) ∧ Hid ((Kd.int .i64).R 3 wq w.heap.size (fun b => some b ≠ v8.ownBlock) (.slice A5 k c5) (TM.upN f 0 (nds l) k)) ∧ Below w.heap.size w wq) (fun _ _ v _ => n.f2.length - (intOf v).toNat)
        case atStart => exact ⟨0, Nat.zero_le _, rfl, Lib.hid (Kd.R_nil _ _ _ _ _), Lib.hid (Kd.R_mono (Kd.R_below HO5.out (below_alloc (Below.refl _ _) _)) (fun _ _ => by simp [Value.ownBlock])), hB.alloc hB.size _⟩
        case round =>
          obtain ⟨j, hj, rfl, hO8, hO5', hBq⟩ := hrel
          by_cases hjlt : j < n.f2.length
          · obtain ⟨ak, rfl, hck⟩ := Kd.at_int HI.out (j : Int) (by omega) (by omega)
            simp only [Int.toNat_natCast] at hck
            replace hck := (hBq.cell (World.block_lt_of_cell? w _ hck)).trans hck
            obtain ⟨hk0, hk1⟩ := HKK.out j hjlt
            have hsucc := kidsN_succ f (nds l) n.f2 j hjlt
            generalize rd n.f2 j = x at hck hk0 hk1 hsucc
            have HSU := Lib.hid hsucc
            clear hsucc
            obtain ⟨a5, rfl, hc5⟩ := Kd.at_int (R_open hO5'.out).2.2 x hk0 hk1
            rw [rd_upN f (nds l) k x hk0 hk1] at hc5
            generalize TM.up f 0 (nds l) x.toNat = y at hc5 HSU
            have hb8 : w.heap.size ≤ wr.heap.size := hBq.size
            have hl8 : (kidsN f (nds l) n.f2 j).length ≤ 17592186044414 := by unfold kidsN; rw [List.length_map, List.length_take]; omega
            go_wp2_with (at_builtin; refine app_ints w.heap.size rfl (.tmp 27) (.tmp 32) rfl _ _ _ _ rfl rfl (Kd.fresh' (Kd.R_lt hO5'.out)) hO8.out hBq hb8 hl8 ?_; intro v1 w2 hO1 hB1 hg1 hat1)
            · rw [← HSU.out] at hO1
              have h5 := Kd.R_mono (Kd.R_after (ok := fun _ => True) (Kd.R_mono hO5'.out (fun _ hk => ⟨trivial, hk⟩)) hg1 hat1) (fun _ hk => hk.2)
              have HO1 := Lib.hid hO1
              have H5 := Lib.hid h5
              clear hO1 h5 hg1 hat1
              go_wp2
              go_roundw
              case rel => exact ⟨j + 1, by omega, by go_num, HO1, H5, hB1⟩
              case measure => simp [intOf]; omega
          · obtain rfl : j = n.f2.length := by omega
            have hF := HF.out n.f0 n.f1 (kidsN f (nds l) n.f2 n.f2.length)
            have hl8 : (kidsN f (nds l) n.f2 n.f2.length).length ≤ 64 := by unfold kidsN; rw [List.length_map, List.length_take]; omega
            have hup2 : TM.up f 0 (nds l) k = F (kidsN f (nds l) n.f2 n.f2.length) := by rw [HUP.out, ← hF]; unfold kidsN ndOf; rw [List.take_length]
            have HUP2 := Lib.hid hup2
            have hl5 : (TM.upN f 0 (nds l) k).length ≤ 17592186044414 := by rw [TM.upN_length]; omega
            clear hF hup2
            generalize hq : F (kidsN f (nds l) n.f2 n.f2.length) = q at HUP2
            have HQ := Lib.hid hq
            clear hq
            go_wp2_with fail
            refine (HG.out _ _ _ _ _ hO8.out hBq.size hl8 HPK.out).mono ?_
            rintro e w3 ⟨rfl, hg3⟩
            rw [HQ.out]
            have hB3 : Below w.heap.size w w3 := hBq.grown hg3 hBq.size (Kd.R_base hO8.out)
            have hO53 := Kd.R_grown hO5'.out hg3 (fun _ hk => hk)
            have HO53 := Lib.hid hO53
            have hb3 := hB3.size
            clear hO53 hg3
            go_wp2_with (at_builtin; refine app_ints w.heap.size rfl (.tmp 35) (.tmp 39) rfl _ _ _ (fun _ => True) rfl rfl (fun _ _ => trivial) (Kd.R_mono HO53.out (fun _ _ => trivial)) hB3 hb3 hl5 ?_; intro v1 w4 hO1 hB1 hg1 hat1)
            have e1 : TM.upN f 0 (nds l) k ++ [q] = TM.upN f 0 (nds l) (k + 1) := by
              rw [← HUP2.out, TM.upN_eq, TM.upN_eq, List.range_succ, List.map_append]; rfl
            rw [e1] at hO1
            have HO1 := Lib.hid hO1
            clear hO1 hg1 hat1 e1
            go_wp2
            go_roundw
            case rel => exact ⟨k + 1, by omega, by go_num, HO1, hB1⟩
            case measure => simp [intOf]; omega
      · obtain rfl : k = l.length := by omega
        obtain ⟨A5, c5, hv5, _, _⟩ := Kd.R_reads hO5
        rw [TM.upN_length] at hv5
        subst hv5
        obtain ⟨a5, rfl, hc5⟩ := Kd.at_int (R_open hO5).2.2 ((l.length : Int) - 1) (by omega) (by omega)
        rw [rd_upN f (nds l) l.length _ (by omega) (by omega)] at hc5
        have e1 : ((l.length : Int) - 1).toNat = l.length - 1 := by omega
        rw [e1] at hc5
        have HO5 := Lib.hid hO5
        clear hO5
        go_wp2_with fail
        go_ret
        exact ⟨rfl, hB⟩
end Go.Proofs.YtlgnogpjmdhflaaDoor
