/- Spans: numbers make one list alone. -/
import Derived.Test.YteachgaabfaanaaSpN
namespace Go.Proofs.Yteachgaabfaanaa
open Go.RowKit Go.Proofs.YteachgaabfaanaaW.PrintWords Go.Proofs.YteachgaabfaanaaW.PrintLast Go.Proofs.YteachgaabfaanaaW.PrintMore Go.Proofs.Yteachgaabfaanaa.PRef
set_option linter.unusedVariables false
set_option linter.unusedSimpArgs false

theorem R_emptyK {α : Type} (d : Kd α) (e : TypeId) (w : World) (base : Nat) (ok : Nat → Prop) (hb : base ≤ w.heap.size) (hok : ok w.heap.size) : d.R e (w.alloc (.cells #[] e)) base ok (.slice (some ⟨w.heap.size, 0, none⟩) 0 0) [] := by
  have h2 := World.ownsRow_lit (base := base) (e := e) (size := d.sz) w #[] 0 hb (by simp [maxLen]) (by simp)
  refine ⟨fun k hk => ?_, [], h2, Reps.none _ _⟩
  have : w.heap.size = k := by simpa [Value.ownBlock] using hk
  subst this
  exact hok
theorem rd_mem2 (xs : List Int) (j : Nat) (h : j < xs.length) : rd xs (j : Int) ∈ xs := by
  unfold rd
  rw [List.getD_eq_getElem?_getD]
  simp [List.getElem?_eq_getElem h]
set_option maxHeartbeats 8000000 in
set_option maxRecDepth 100000 in
theorem one_calls (A : Option Addr) (c : Nat) (l : List S40) (f : Int) (w : World) (hA : Kd.C k40 w A l.length l) (hca : l.length ≤ c) (hf : 0 ≤ f ∧ f ≤ 65535) :
    Calls Try.prog 4 #[.slice A l.length c, .int .u16 f] w fun e w' => e = .returned (.bool true) ∧ Below w.heap.size w w' := by
  have HA := Lib.hid hA
  clear hA
  by_cases hla : 60 < l.length
  · have d1 : decide ((60 : Int) < (l.length : Int)) = true := decide_eq_true (by omega)
    go_enter Try.func4, Try.ntmps4
    go_wp2_with fail
    refine (awake_calls _).mono ?_
    rintro e w1 ⟨rfl, hb⟩
    go_wp2_with fail
    go_ret
    exact ⟨rfl, hb⟩
  · have d1 : decide ((60 : Int) < (l.length : Int)) = false := decide_eq_false (by omega)
    obtain ⟨kf, hkf⟩ := fewF l (by omega)
    have HKF := Lib.hid hkf
    clear hkf
    cases hfew : fewB l
    · go_enter Try.func4, Try.ntmps4
      go_wp2_with fail
      refine (awake_calls _).mono ?_
      rintro e w1 ⟨rfl, hb⟩
      have HX := Lib.hid hb
      clear hb
      go_wp2_with fail
      refine (stratagemlaw03_few.calls kf A c l _ _ (Kd.C_below HA.out HX.out) hca HKF.out).mono ?_
      rintro e w2 ⟨rfl, hb⟩
      replace hb := hb.below
      rw [hfew]
      go_wp2_with fail
      go_ret
      exact ⟨rfl, HX.out.trans (hb.mono HX.out.size)⟩
    · have hfw := hfew
      unfold fewB at hfw
      rw [Bool.and_eq_true, decide_eq_true_eq] at hfw
      obtain ⟨hr, hsz⟩ := hfw
      obtain ⟨hvl, kv, hkv⟩ := valsF (l := l) (by omega) hr hsz
      have HR := Lib.hid hr
      have HKV := Lib.hid hkv
      clear hr hsz hkv
      go_enter Try.func4, Try.ntmps4
      go_wp2_with fail
      refine (awake_calls _).mono ?_
      rintro e w1 ⟨rfl, hb⟩
      have HX := Lib.hid hb
      clear hb
      go_wp2_with fail
      refine (stratagemlaw03_few.calls kf A c l _ _ (Kd.C_below HA.out HX.out) hca HKF.out).mono ?_
      rintro e w2 ⟨rfl, hb⟩
      replace hb := hb.below
      rw [hfew]
      replace HX := Lib.hid (HX.out.trans (hb.mono HX.out.size))
      clear hb hfew
      go_wp2_with fail
      refine (stratagemref03_Values.calls kv A c l _ _ (Kd.C_below HA.out HX.out) hca HKV.out).mono ?_
      rintro e w3 ⟨va, rfl, hRv, hb⟩
      replace HX := Lib.hid (HX.out.trans (hb.mono HX.out.size))
      clear hb
      obtain ⟨VA, vc, rfl, hvc, hVC⟩ := Kd.R_reads hRv
      have HV := Lib.hid hVC
      have HRV := Lib.hid hRv
      clear hRv hVC
      have hat := fun (x : Nat) (hx : x < (valsB l).length) => at_j0 (l := l) (by omega) HR.out x hx (by omega)
      have hpl := fun (x : Nat) (hx : x < (valsB l).length) => place_vals HR.out x hx
      have hbd := vals_bd HR.out
      have hof := fun zs hm => of_turned HR.out zs hm
      have hsz : sizeB l = ((valsB l).length : Int) := by
        unfold sizeB
        rw [if_pos HR.out]
        exact (vals_size HR.out).symm
      obtain ⟨kz, hkz⟩ := sizeF l (by omega)
      rw [hsz] at hkz
      have HAT := Lib.hid hat
      have HPL := Lib.hid hpl
      have HBD := Lib.hid hbd
      have HOF := Lib.hid hof
      have HKZ := Lib.hid hkz
      clear hat hpl hbd hof hsz hkz HKV HKF
      generalize valsB l = zs at hvl hvc HV HRV HAT HPL HBD HOF HKZ ⊢
      by_cases hz : zs = []
      · subst hz
        have ho := IR_own HRV.out
        have hCe : ∀ (W : World) (X : Option Addr), Kd.C (Kd.int .i64) W X 0 [] := fun W X => ⟨rfl, by omega, fun h => absurd h (by omega)⟩
        have hVA : VA = none ∨ ∃ g, VA = some ⟨g, 0, none⟩ := by
          rcases ho.2 with ⟨h1, _⟩ | ⟨g, cap, cur, h1, _⟩
          · injection h1 with h1
            exact .inl h1
          · injection h1 with h1
            exact .inr ⟨g, h1⟩
        clear ho
        have hE := R_emptyK (Kd.int .i64) 3 w3 w3.heap.size (fun _ => True) (Nat.le_refl _) trivial
        have hbe := below_alloc (Below.refl w3.heap.size w3) (.cells #[] 3)
        have HE := Lib.hid hE
        have HBE := Lib.hid hbe
        clear hE hbe HRV
        have hof := HOF.out [] (fun v => Iff.rfl)
        have HOF2 := Lib.hid hof
        clear hof HOF
        rcases hVA with rfl | ⟨g, rfl⟩
        all_goals
          go_wp2_with (first
            | (at_builtin; refine Kd.R_append_rows (Kd.int .i64) (Rr := fun (x : Int) cs => cs = [Value.int .i64 x]) (w0 := w3) w3.heap.size rfl (.tmp 34) (.tmp 37) 26 3 (.int .i64 0) 8 rfl Try.underlying26 infoInt rfl (by decide) (by decide) _ [] [] _ 0 _ (fun _ => True) (fun _ => False) rfl rfl HE.out (hCe _ _) (fun x cs h => h) (fun _ hk => hk.elim) (fun _ _ => trivial) HBE.out HBE.out.size (by simp) ?_; intro v5 w5 hO5 hB5 hg5 hat5; rw [List.nil_append] at hO5; have HO5 := Lib.hid hO5; have HB5 := Lib.hid hB5; clear hO5 hB5 hg5 hat5)
            | (at_builtin; refine Kd.R_append_rows (Kd.int .i64) (Rr := fun (x : Int) cs => cs = [Value.int .i64 x]) (w0 := w3) w3.heap.size rfl (.tmp 38) (.tmp 39) 26 3 (.int .i64 0) 8 rfl Try.underlying26 infoInt rfl (by decide) (by decide) _ [] [] _ 0 _ (fun _ => True) (fun _ => False) rfl rfl HO5.out (hCe _ _) (fun x cs h => h) (fun _ hk => hk.elim) (fun _ _ => trivial) HB5.out HB5.out.size (by simp) ?_; intro v6 w6 hO6 hB6 hg6 hat6; rw [List.nil_append] at hO6; obtain ⟨TA, tc, rfl, htc, hTC⟩ := Kd.R_reads hO6; have HT := Lib.hid hTC; have HB6 := Lib.hid hB6; clear hO6 hTC hB6 hg6 hat6))
          refine (of_calls TA tc [] w6 HT.out (by decide)).mono ?_
          rintro e w7 ⟨hb, ⟨-, v, rfl, hR7⟩ | ⟨hno, -⟩⟩
          rotate_left
          · rw [HOF2.out.1] at hno
            cases hno
          rw [HOF2.out.2] at hR7
          obtain ⟨LA, lc, rfl, hlc, hLC⟩ := Kd.R_reads hR7
          have HL7 := Lib.hid hLC
          have HY7 := Lib.hid (HB6.out.trans (hb.mono HB6.out.size))
          clear hb hR7 hLC HT htc
          have HXY := Lib.hid (HX.out.trans (HY7.out.mono HX.out.size))
          have HA7 := Lib.hid (Kd.C_below HA.out HXY.out)
          clear HA HV HB6 HY7 HX HO5 HB5 HE HBE
          obtain ⟨ks, hks⟩ := same_t l (by omega)
          have HKS := Lib.hid hks
          clear hks
          go_wp2_with fail
          refine (stratagemref03_Same.calls ks LA lc l A c l true _ HL7.out hlc HA7.out hca HKS.out).mono ?_
          rintro e w8 ⟨rfl, hb⟩
          replace hb := hb.below
          have HZ8 := Lib.hid hb
          clear hb
          go_wp2_with fail
          refine (spans_Size.calls kz A c l _ _ (Kd.C_below HA7.out HZ8.out) hca HKZ.out).mono ?_
          rintro e w9 ⟨rfl, hb⟩
          have HZ9 := Lib.hid (HZ8.out.trans (hb.mono HZ8.out.size))
          clear hb HZ8
          go_wp2_with fail
          go_loopw [63] (fun v63 wr => v63 = .int .i64 0 ∧ Hid (Below w7.heap.size w7 wr)) (fun _ _ => 0)
          case atStart => exact ⟨rfl, HZ9⟩
          case round =>
            obtain ⟨rfl, hBr⟩ := hrel
            go_wp2_with fail
            go_ret
            exact ⟨rfl, HXY.out.trans (hBr.out.mono HXY.out.size)⟩
      · have hz0 : 0 < zs.length := List.length_pos_iff.2 hz
        have d2 : decide ((0 : Int) < (zs.length : Int)) = true := decide_eq_true (by omega)
        obtain ⟨q, hq⟩ : ∃ q : Nat, f % (zs.length : Int) = (q : Int) := ⟨(f % (zs.length : Int)).toNat, (Int.toNat_of_nonneg (Int.emod_nonneg _ (by omega))).symm⟩
        have hql : q < zs.length := by
          have := Int.emod_lt_of_pos f (show (0 : Int) < zs.length by omega)
          omega
        obtain ⟨g, cap, he, hgb, hgl, _⟩ := Kd.R_form HRV.out hz0
        injection he with he1 he2 he3
        subst he1
        subst he3
        have hcq : ¬ vc = q := by omega
        have hcd := Kd.C_drop HV.out (Nat.le_of_lt hql) hvc
        rw [if_neg hcq] at hcd
        have hm : (some (⟨g, 0, none⟩ : Addr)).map (·.add (q * (Kd.int .i64).sz)) = some ⟨g, q, none⟩ := by
          show some (Addr.add ⟨g, 0, none⟩ (q * 1)) = _
          rw [Nat.mul_one, add0]
        rw [hm] at hcd
        have HCD := Lib.hid hcd
        have hdl : (zs.drop q).length = zs.length - q := List.length_drop
        clear hcd hm
        have hE := R_emptyK (Kd.int .i64) 3 w3 w3.heap.size (fun _ => True) (Nat.le_refl _) trivial
        have hbe := below_alloc (Below.refl w3.heap.size w3) (.cells #[] 3)
        have HE := Lib.hid hE
        have HBE := Lib.hid hbe
        have HCD4 := Lib.hid (Kd.C_below HCD.out hbe)
        clear hE hbe
        go_wp2_with (first
          | (at_builtin; refine Kd.R_append_rows (Kd.int .i64) (Rr := fun (x : Int) cs => cs = [Value.int .i64 x]) (w0 := w3) w3.heap.size rfl (.tmp 34) (.tmp 37) 26 3 (.int .i64 0) 8 rfl Try.underlying26 infoInt rfl (by decide) (by decide) _ [] (zs.drop q) (some ⟨g, q, none⟩) (zs.length - q) (vc - q) (fun _ => True) (fun _ => False) rfl rfl HE.out (hdl ▸ HCD4.out) (fun x cs h => h) (fun _ hk => hk.elim) (fun _ _ => trivial) HBE.out HBE.out.size (by simp; omega) ?_; intro v5 w5 hO5 hB5 hg5 hat5; rw [List.nil_append] at hO5; have HO5 := Lib.hid hO5; have HB5 := Lib.hid hB5; have HV5 := Lib.hid (Kd.C_below HV.out hB5); clear hO5 hB5 hg5 hat5)
          | (at_builtin; refine Kd.R_append_rows (Kd.int .i64) (Rr := fun (x : Int) cs => cs = [Value.int .i64 x]) (w0 := w3) w3.heap.size rfl (.tmp 38) (.tmp 39) 26 3 (.int .i64 0) 8 rfl Try.underlying26 infoInt rfl (by decide) (by decide) _ (zs.drop q) zs (some ⟨g, 0, none⟩) zs.length vc (fun _ => True) (fun _ => False) rfl rfl HO5.out HV5.out (fun x cs h => h) (fun _ hk => hk.elim) (fun _ _ => trivial) HB5.out HB5.out.size (by rw [hdl]; omega) ?_; intro v6 w6 hO6 hB6 hg6 hat6; have hzl : (zs.drop q ++ zs).length ≤ 800 := (by rw [List.length_append, hdl]; omega); have hmem : ∀ v, v ∈ zs.drop q ++ zs ↔ v ∈ zs := (fun v => by rw [List.mem_append]; exact ⟨fun h => h.elim (fun h => List.mem_of_mem_drop h) id, Or.inr⟩); generalize zs.drop q ++ zs = ts at hO6 hzl hmem; obtain ⟨TA, tc, rfl, htc, hTC⟩ := Kd.R_reads hO6; have HT := Lib.hid hTC; have HB6 := Lib.hid hB6; have HMEM := Lib.hid hmem; clear hO6 hTC hB6 hg6 hat6 hmem))
        have hof := HOF.out ts HMEM.out
        refine (of_calls TA tc ts w6 HT.out (by omega)).mono ?_
        rintro e w7 ⟨hb, ⟨-, v, rfl, hR7⟩ | ⟨hno, -⟩⟩
        rotate_left
        · rw [hof.1] at hno
          cases hno
        rw [hof.2] at hR7
        obtain ⟨LA, lc, rfl, hlc, hLC⟩ := Kd.R_reads hR7
        have HL7 := Lib.hid hLC
        have HY7 := Lib.hid (HB6.out.trans (hb.mono HB6.out.size))
        clear hb hof hR7 hLC HT HMEM HOF htc
        have HXY := Lib.hid (HX.out.trans (HY7.out.mono HX.out.size))
        have HA7 := Lib.hid (Kd.C_below HA.out HXY.out)
        have HV7 := Lib.hid (Kd.C_below HV.out HY7.out)
        clear HA HV HB6 HY7 HX HO5 HB5 HV5 HE HBE HCD4 HCD HRV
        obtain ⟨ks, hks⟩ := same_t l (by omega)
        have HKS := Lib.hid hks
        clear hks
        go_wp2_with fail
        refine (stratagemref03_Same.calls ks LA lc l A c l true _ HL7.out hlc HA7.out hca HKS.out).mono ?_
        rintro e w8 ⟨rfl, hb⟩
        replace hb := hb.below
        have HZ8 := Lib.hid hb
        clear hb
        go_wp2_with fail
        refine (spans_Size.calls kz A c l _ _ (Kd.C_below HA7.out HZ8.out) hca HKZ.out).mono ?_
        rintro e w9 ⟨rfl, hb⟩
        have HZ9 := Lib.hid (HZ8.out.trans (hb.mono HZ8.out.size))
        clear hb HZ8
        go_wp2_with fail
        go_loopw [63] (fun v63 wr => ∃ j : Nat, j ≤ zs.length ∧ v63 = .int .i64 j ∧ Hid (Below w7.heap.size w7 wr)) (fun v _ => zs.length - (intOf v).toNat)
        case atStart => exact ⟨0, Nat.zero_le _, rfl, HZ9⟩
        case round =>
          obtain ⟨j, hj, rfl, hBr⟩ := hrel
          by_cases hlt : j < zs.length
          · obtain ⟨ad, hde, hc0⟩ := Kd.at_int (Kd.C_below HV7.out hBr.out) (j : Int) (by omega) (by omega)
            injection hde with hde
            subst hde
            simp only [Int.toNat_natCast] at hc0
            obtain ⟨k1, h1⟩ := HAT.out j hlt
            have hp := HPL.out j hlt
            have hb := HBD.out _ (rd_mem2 zs j hlt)
            generalize rd zs (j : Int) = v at hc0 h1 hp hb
            have G1 := Lib.hid h1
            have GP := Lib.hid hp
            have GB := Lib.hid hb
            clear h1 hp hb
            rw [add0] at hc0
            go_wp2_with fail
            refine (spans_At.calls k1 A c l (j : Int) v true _ (Kd.C_below HA7.out hBr.out) hca G1.out).mono ?_
            rintro e y1 ⟨rfl, hb⟩
            have HT1 := Lib.hid (hBr.out.trans (hb.mono hBr.out.size))
            clear hb
            go_wp2_with fail
            refine (place_calls A c l v _ (Kd.C_below HA7.out HT1.out) hca (by omega) (by have := GB.out; omega)).mono ?_
            rintro e y2 ⟨rfl, hb⟩
            rw [GP.out]
            have HT2 := Lib.hid (HT1.out.trans (hb.mono HT1.out.size))
            clear hb
            go_wp2_with fail
            refine ⟨⟨j + 1, by omega, by go_num, Lib.hid HT2.out⟩, ?_⟩
            simp [intOf]; omega
          · obtain rfl : j = zs.length := by omega
            go_wp2_with fail
            go_ret
            exact ⟨rfl, HXY.out.trans (hBr.out.mono HXY.out.size)⟩
end Go.Proofs.Yteachgaabfaanaa
