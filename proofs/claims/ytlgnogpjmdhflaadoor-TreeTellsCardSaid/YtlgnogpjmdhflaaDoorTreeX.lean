/- The document's walk does as the plain facts say. -/
import Derived.Test.YtlgnogpjmdhflaaDoorTreeW
namespace Go.Proofs.YtlgnogpjmdhflaaDoor
open Go.RowKit Go.Proofs.YtlgnogpjmdhflaaDoorW.PrintWords Go.Proofs.YtlgnogpjmdhflaaDoorW.PrintLast Go.Proofs.YtlgnogpjmdhflaaDoorW.PrintMore Go.Proofs.YtlgnogpjmdhflaaDoor.PRef Go.Maps
set_option linter.unusedVariables false
set_option linter.unusedSimpArgs false

def WalkSaid7 (A : Option Addr) (c : Nat) (t : List S47) (m : Nat) : Prop := ∀ (q : Nat), q < m → q < t.length → (TM.T (nds7 t) q).length ≤ 100000 → ∀ (ok : Nat → Prop) (TA : Option Addr) (tc : Nat) (OA : Option Addr) (oc : Nat) (out : List S47) (w : World),
  k47.C w A t.length t → Tx w ok TA tc OA oc out → TM.Ok (nds7 out) → out.length + load q ≤ 100000000000 →
  Calls Tryd.prog 22 #[.slice A t.length c, .int .i64 q, .slice TA out.length tc, .slice OA out.length oc] w (WalkT t m q ok out w)

/-- The state between two kids. -/
structure K7 (ok : Nat → Prop) (w0 : World) (r : List TM.Nd × List Int) (TA : Option Addr) (tc : Nat) (OA : Option Addr) (oc : Nat) (out : List S47) (kv : Value) (wr : World) : Prop where
  tx : Tx wr (fun k => (ok k ∨ w0.heap.size ≤ k) ∧ some k ≠ kv.ownBlock) TA tc OA oc out
  r1 : nds7 out = r.1
  kids : (Kd.int .i64).R 3 wr w0.heap.size (fun _ => True) kv r.2
  bw : Below w0.heap.size w0 wr
theorem K7.called {ok : Nat → Prop} {w0 : World} {r : List TM.Nd × List Int} {TA TB : Option Addr} {tc tb : Nat} {OA OB : Option Addr} {oc ob : Nat} {out out2 : List S47} {kv : Value} {wr w6 : World} {r2 : List TM.Nd × Nat} (h : K7 ok w0 r TA tc OA oc out kv wr)
    (hx : Tx w6 (fun k => ((ok k ∨ w0.heap.size ≤ k) ∧ some k ≠ kv.ownBlock) ∨ wr.heap.size ≤ k) TB tb OB ob out2) (hn : nds7 out2 = r2.1) (hb : Below wr.heap.size wr w6) : K7 ok w0 (r2.1, r.2) TB tb OB ob out2 kv w6 :=
  ⟨hx.mono fun k hk => by
    rcases hk with hk | hk
    · exact hk
    · exact ⟨.inr (Nat.le_trans h.bw.size hk), fun e => by have := Kd.R_lt h.kids k e.symm; omega⟩, hn, Kd.R_below h.kids hb, h.bw.trans (hb.mono h.bw.size)⟩
theorem K7.grown {ok : Nat → Prop} {w0 : World} {r1 : List TM.Nd} {ks ks1 : List Int} {TA : Option Addr} {tc : Nat} {OA : Option Addr} {oc : Nat} {out : List S47} {kv v1 : Value} {wr w1 : World} (h : K7 ok w0 (r1, ks) TA tc OA oc out kv wr)
    (hO : (Kd.int .i64).R 3 w1 w0.heap.size (fun _ => True) v1 ks1) (hb : Below w0.heap.size w0 w1) (hg : wr.grownBy w1 kv.ownBlock) (hat : v1.ownBlock = kv.ownBlock ∨ ∃ b, v1.ownBlock = some b ∧ wr.heap.size ≤ b) : K7 ok w0 (r1, ks1) TA tc OA oc out v1 w1 :=
  ⟨h.tx.after hg hat, h.r1, hO, hb⟩

theorem flat_take (ts : List TM.Txt) (j : Nat) : (ts.take j).flatten.length ≤ ts.flatten.length := by
  have : ts.flatten = (ts.take j).flatten ++ (ts.drop j).flatten := by rw [← List.flatten_append, List.take_append_drop]
  rw [this, List.length_append]
  omega

set_option maxHeartbeats 8000000 in
set_option maxRecDepth 100000 in
theorem walk7_step (A : Option Addr) (c : Nat) (t : List S47) (hlc : t.length ≤ c) (hm : TM.Mays (nds7 t)) (hl : t.length ≤ 100000) (m q : Nat) (ih : WalkSaid7 A c t m) (hq : q ≤ m) (hql : q < t.length) (hT : (TM.T (nds7 t) q).length ≤ 100000) (ok : Nat → Prop) (TA : Option Addr) (tc : Nat) (OA : Option Addr) (oc : Nat) (out : List S47) (w : World)
    (hC : k47.C w A t.length t) (hx : Tx w ok TA tc OA oc out) (hok : TM.Ok (nds7 out)) (hlen : out.length + load q ≤ 100000000000) :
    Calls Tryd.prog 22 #[.slice A t.length c, .int .i64 q, .slice TA out.length tc, .slice OA out.length oc] w (WalkT t (m + 1) q ok out w) := by
  obtain ⟨ad, A2, c2, rfl, hn0, hn1, hn2, hlk, hik⟩ := at_T47 hC (q : Int) (by omega) (by omega)
  simp only [Int.toNat_natCast] at hn0 hn1 hn2
  have hqn := nd_nds7 t q hql
  generalize rd_T47 t q = n0 at hn0 hn1 hn2 hlk hik hqn
  have hmq := hm q (by rw [nds7_length]; exact hql)
  have hfb := TM.fits_bd hmq.1
  rw [hqn] at hfb
  obtain ⟨hf0, hf1, hf2⟩ := hfb
  change 0 ≤ n0.f0 ∧ n0.f0 < 100 at hf0
  change 0 ≤ n0.f1 ∧ n0.f1 < 100 at hf1
  change n0.f2.length ≤ 64 at hf2
  obtain ⟨s1, s2, s3⟩ := TM.shr_kids hm m q (nds7 out) hq (by rw [nds7_length]; exact hql) hok
  have hshr : TM.shr (nds7 t) (m + 1) q (nds7 out) = TM.put (TM.kidsOf (TM.shr (nds7 t) m) (TM.nd (nds7 t) q).2.2 (nds7 out)).1 ((TM.nd (nds7 t) q).1, (TM.nd (nds7 t) q).2.1, (TM.kidsOf (TM.shr (nds7 t) m) (TM.nd (nds7 t) q).2.2 (nds7 out)).2) := rfl
  have hTq := TM.T_eq hm (by rw [nds7_length]; exact hql : q < (nds7 t).length)
  rw [hqn] at s1 s2 s3 hshr hTq
  change TM.ok _ (n0.f0, n0.f1, _) at s2
  have hd0 := TM.dg_len n0.f0
  have hd1 := TM.dg_len n0.f1
  have hq0 : (0 : Int) ≤ (q : Int) := by omega
  have hq1 : (q : Int) < (t.length : Int) := by omega
  have hbd := below_drew (Below.refl w.heap.size w)
  have z0 : (strT (TM.dg n0.f0)).size ≤ 2 := by rw [strT_size]; exact hd0
  have z1 : (strT (TM.dg n0.f1)).size ≤ 2 := by rw [strT_size]; exact hd1
  have hH : ByteArray.mk #[40] ++ strT (TM.dg n0.f0) ++ ByteArray.mk #[32] ++ strT (TM.dg n0.f1) = strT (TM.head n0.f0 n0.f1) := by
    rw [show ByteArray.mk #[40] = strT [40] from rfl, show ByteArray.mk #[32] = strT [32] from rfl, strT_append, strT_append, strT_append]
    simp [TM.head]
  have HH := Lib.hid hH
  clear hH hd0 hd1
  generalize hG0 : strT (TM.dg n0.f0) = D0 at z0 HH
  generalize hG1 : strT (TM.dg n0.f1) = D1 at z1 HH
  have G0 := Lib.hid hG0
  have G1 := Lib.hid hG1
  clear hG0 hG1
  have p1 : (9223372036854775807 < 1 + D0.size) = False := eq_false (by omega)
  have p2 : (9223372036854775807 < 1 + D0.size + 1) = False := eq_false (by omega)
  have p3 : (9223372036854775807 < 1 + D0.size + 1 + D1.size) = False := eq_false (by omega)
  have HC := Lib.hid hC
  have HX := Lib.hid (hx.bound.step hbd)
  have HN0 := Lib.hid hn0
  have HN1 := Lib.hid hn1
  have HIH := Lib.hid ih
  have HM := Lib.hid hm
  have HOK := Lib.hid hok
  have HQN := Lib.hid hqn
  have HMQ := Lib.hid hmq
  have S1 := Lib.hid s1
  have S2 := Lib.hid s2
  have S3 := Lib.hid s3
  have HSHR := Lib.hid hshr
  have HTQ := Lib.hid hTq
  have HBD := Lib.hid hbd
  have HN2 := Lib.hid hn2
  have HIK0 := Lib.hid hik
  replace hn0 := (hbd.cell (World.block_lt_of_cell? w _ hn0)).trans hn0
  replace hn1 := (hbd.cell (World.block_lt_of_cell? w _ hn1)).trans hn1
  replace hn2 := (hbd.cell (World.block_lt_of_cell? w _ hn2)).trans hn2
  have h64 : t.length ≤ 9223372036854775807 := by omega
  clear hC hx hik ih hm hok hqn hmq s1 s2 s3 hshr hTq hbd
  go_enter Tryd.func22, Tryd.ntmps22
  go_wp2_with fail
  refine start_ (n := 16) (S := fun w' => w'.cell? (ad.add (q * 3)) = some (.int .i64 n0.f0) ∧ w'.cell? ⟨(ad.add (q * 3)).block, (ad.add (q * 3)).off + 1, none⟩ = some (.int .i64 n0.f1)) (ds := []) #[false, false, false, false, false, false, false, false, false, false, false, false, false, false, false, false] (by kernel_rfl) rfl rfl ⟨hn0, hn1⟩ (fun hHeld => ?_)
  generalize w.drew = w5 at hn0 hn1 hn2 HX HBD hHeld ⊢
  refine pure_ (i := 0) (N := some 18) (v := ?_) (a' := ?_) #[true, false, false, false, false, false, false, false, false, false, false, false, false, false, false, false] rfl rfl (by kernel_rfl) (fun _ _ _ h => h) (Or.inl ⟨by rfl, ?_⟩) ?_ ?_
  rotate_left
  · intro w'
    go_simp
    with_reducible rfl
  rotate_left
  · simp only [Act.put, List.setIfInBounds_toArray, List.set_cons_zero, List.set_cons_succ, i64_w, i32_w]
    rfl
  refine pure_ (i := 1) (N := some 19) (v := ?_) (a' := ?_) #[true, true, false, false, false, false, false, false, false, false, false, false, false, false, false, false] rfl rfl (by kernel_rfl) (fun _ _ _ h => h) (Or.inl ⟨by rfl, ?_⟩) ?_ ?_
  rotate_left
  · intro w'
    go_simp
    with_reducible rfl
  rotate_left
  · simp only [Act.put, List.setIfInBounds_toArray, List.set_cons_zero, List.set_cons_succ, i64_w, i32_w]
    rfl
  refine pure_ (i := 2) (N := some 20) (v := ?_) (a' := ?_) #[true, true, true, false, false, false, false, false, false, false, false, false, false, false, false, false] rfl rfl (by kernel_rfl) (fun _ _ _ h => h) (Or.inl ⟨by rfl, ?_⟩) ?_ ?_
  rotate_left
  · intro w'
    go_simp
    with_reducible rfl
  rotate_left
  · simp only [Act.put, List.setIfInBounds_toArray, List.set_cons_zero, List.set_cons_succ, i64_w, i32_w]
    rfl
  refine pure_ (i := 3) (N := some 21) (v := ?_) (a' := ?_) #[true, true, true, true, false, false, false, false, false, false, false, false, false, false, false, false] rfl rfl (by kernel_rfl) (fun _ _ _ h => h) (Or.inl ⟨by rfl, ?_⟩) ?_ ?_
  rotate_left
  · intro w'
    go_simp
    with_reducible rfl
  rotate_left
  · simp only [Act.put, List.setIfInBounds_toArray, List.set_cons_zero, List.set_cons_succ, i64_w, i32_w]
    rfl
  refine pure_ (i := 8) (N := some 26) (v := ?_) (a' := ?_) #[true, true, true, true, false, false, false, false, true, false, false, false, false, false, false, false] rfl rfl (by kernel_rfl) (fun _ _ _ h => h) (Or.inl ⟨by rfl, ?_⟩) ?_ ?_
  rotate_left
  · intro w'
    go_simp
    with_reducible rfl
  rotate_left
  · simp only [Act.put, List.setIfInBounds_toArray, List.set_cons_zero, List.set_cons_succ, i64_w, i32_w]
    rfl
  refine pure_ (i := 9) (N := some 27) (v := ?_) (a' := ?_) #[true, true, true, true, false, false, false, false, true, true, false, false, false, false, false, false] rfl rfl (by kernel_rfl) (fun _ _ _ h => h) (Or.inl ⟨by rfl, ?_⟩) ?_ ?_
  rotate_left
  · intro w'
    go_simp
    with_reducible rfl
  rotate_left
  · simp only [Act.put, List.setIfInBounds_toArray, List.set_cons_zero, List.set_cons_succ, i64_w, i32_w]
    rfl
  refine pure_ (i := 10) (N := some 28) (v := ?_) (a' := ?_) #[true, true, true, true, false, false, false, false, true, true, true, false, false, false, false, false] rfl rfl (by kernel_rfl) (fun _ _ _ h => h) (Or.inl ⟨by rfl, ?_⟩) ?_ ?_
  rotate_left
  · intro w'
    go_simp
    with_reducible rfl
  rotate_left
  · simp only [Act.put, List.setIfInBounds_toArray, List.set_cons_zero, List.set_cons_succ, i64_w, i32_w]
    rfl
  refine pure_ (i := 11) (N := some 29) (v := ?_) (a' := ?_) #[true, true, true, true, false, false, false, false, true, true, true, true, false, false, false, false] rfl rfl (by kernel_rfl) (fun _ _ _ h => h) (Or.inl ⟨by rfl, ?_⟩) ?_ ?_
  rotate_left
  · intro w'
    go_simp
    with_reducible rfl
  rotate_left
  · simp only [Act.put, List.setIfInBounds_toArray, List.set_cons_zero, List.set_cons_succ, i64_w, i32_w]
    rfl
  refine take_ (i := 4) (N := some 22) (v := ?_) (a' := ?_) #[true, true, true, true, true, false, false, false, true, true, true, true, false, false, false, false] rfl rfl (by kernel_rfl) (fun _ _ _ h => h) (Or.inl ⟨by rfl, ?_⟩) hHeld ?_ ?_
  rotate_left
  · rintro w' ⟨s0, s1⟩
    go_simp
    with_reducible rfl
  rotate_left
  · simp only [Act.put, List.setIfInBounds_toArray, List.set_cons_zero, List.set_cons_succ, i64_w, i32_w]
    rfl
  refine take_ (i := 12) (N := some 30) (v := ?_) (a' := ?_) #[true, true, true, true, true, false, false, false, true, true, true, true, true, false, false, false] rfl rfl (by kernel_rfl) (fun _ _ _ h => h) (Or.inl ⟨by rfl, ?_⟩) hHeld ?_ ?_
  rotate_left
  · rintro w' ⟨s0, s1⟩
    go_simp
    with_reducible rfl
  rotate_left
  · simp only [Act.put, List.setIfInBounds_toArray, List.set_cons_zero, List.set_cons_succ, i64_w, i32_w]
    rfl
  refine one_ (i := 5) (N := some 23) #[true, true, true, true, true, true, false, false, true, true, true, true, true, false, false, false] rfl rfl (by kernel_rfl) (by decide) (fun K hK => ?_)
  refine goes_ Tryd.func37 (by kernel_rfl) rfl #[.int .i64 n0.f0] (by rfl) rfl rfl (by simp [Act.eval]) ?_
  refine (digits_any n0.f0 (by omega) (by omega) w5).mono ?_
  rw [G0.out]
  rintro e w6 ⟨rfl, hb6⟩
  refine ⟨_, rfl, ?_⟩
  refine hK.out _ _ ⟨pw_cell_below hb6 hn0, pw_cell_below hb6 hn1⟩ (fun hHeld => ?_)
  clear hK K
  refine norm_ (a' := ?_) ?_ ?_
  rotate_left
  · show Act.put _ (some 23) _ = _
    simp only [Act.put, List.setIfInBounds_toArray, List.set_cons_zero, List.set_cons_succ, i64_w, i32_w]
    try rfl
  refine pure_ (i := 6) (N := some 24) (v := ?_) (a' := ?_) #[true, true, true, true, true, true, true, false, true, true, true, true, true, false, false, false] rfl rfl (by kernel_rfl) (fun _ _ _ h => h) (Or.inl ⟨by rfl, ?_⟩) ?_ ?_
  rotate_left
  · intro w'
    go_simp
    with_reducible rfl
  rotate_left
  · simp only [Act.put, List.setIfInBounds_toArray, List.set_cons_zero, List.set_cons_succ, i64_w, i32_w]
    rfl
  refine pure_ (i := 7) (N := some 25) (v := ?_) (a' := ?_) #[true, true, true, true, true, true, true, true, true, true, true, true, true, false, false, false] rfl rfl (by kernel_rfl) (fun _ _ _ h => h) (Or.inl ⟨by rfl, ?_⟩) ?_ ?_
  rotate_left
  · intro w'
    go_simp
    with_reducible rfl
  rotate_left
  · simp only [Act.put, List.setIfInBounds_toArray, List.set_cons_zero, List.set_cons_succ, i64_w, i32_w]
    rfl
  refine one_ (i := 13) (N := some 31) #[true, true, true, true, true, true, true, true, true, true, true, true, true, true, false, false] rfl rfl (by kernel_rfl) (by decide) (fun K hK => ?_)
  refine goes_ Tryd.func37 (by kernel_rfl) rfl #[.int .i64 n0.f1] (by rfl) rfl rfl (by simp [Act.eval]) ?_
  refine (digits_any n0.f1 (by omega) (by omega) w6).mono ?_
  rw [G1.out]
  rintro e w7 ⟨rfl, hb7⟩
  refine ⟨_, rfl, ?_⟩
  have hb7' := hb6.trans (hb7.mono hb6.size)
  refine hK.out _ _ ⟨pw_cell_below hb7' hn0, pw_cell_below hb7' hn1⟩ (fun hHeld => ?_)
  clear hK K
  refine norm_ (a' := ?_) ?_ ?_
  rotate_left
  · show Act.put _ (some 31) _ = _
    simp only [Act.put, List.setIfInBounds_toArray, List.set_cons_zero, List.set_cons_succ, i64_w, i32_w]
    try rfl
  refine pure_ (i := 14) (N := some 32) (v := ?_) (a' := ?_) #[true, true, true, true, true, true, true, true, true, true, true, true, true, true, true, false] rfl rfl (by kernel_rfl) (fun _ _ _ h => h) (Or.inl ⟨by rfl, ?_⟩) ?_ ?_
  rotate_left
  · intro w'
    go_simp
    with_reducible rfl
  rotate_left
  · simp only [Act.put, List.setIfInBounds_toArray, List.set_cons_zero, List.set_cons_succ, i64_w, i32_w]
    rfl
  refine pure_ (i := 15) (N := some 12) (v := ?_) (a' := ?_) #[true, true, true, true, true, true, true, true, true, true, true, true, true, true, true, true] rfl rfl (by kernel_rfl) (fun _ _ _ h => h) (Or.inl ⟨by rfl, ?_⟩) ?_ ?_
  rotate_left
  · intro w'
    go_simp
    with_reducible rfl
  rotate_left
  · simp only [Act.put, List.setIfInBounds_toArray, List.set_cons_zero, List.set_cons_succ, i64_w, i32_w]
    rfl
  refine done_ (by kernel_rfl) ?_
  have hb9 : Below w5.heap.size w5 (w7.alloc (.cells #[] 3)) := hb7'.trans ((below_alloc (Below.refl w7.heap.size w7) (.cells #[] 3)).mono hb7'.size)
  have hsz7 : w.heap.size ≤ w7.heap.size := Nat.le_trans HBD.out.size hb7'.size
  have K0 : K7 ok w (TM.kidsOf (TM.shr (nds7 t) m) (n0.f2.take 0) (nds7 out)) TA tc OA oc out (.slice (some ⟨w7.heap.size, 0, none⟩) 0 0) (w7.alloc (.cells #[] 3)) :=
    ⟨(HX.out.step hb9).mono (fun k hk => ⟨.inl hk.1, fun e => by
      have h1 := hk.2
      simp [Value.ownBlock] at e
      omega⟩), rfl, R_empty w7 w.heap.size _ hsz7 trivial, HBD.out.trans (hb9.mono HBD.out.size)⟩
  have HK0 := Lib.hid K0
  clear hHeld hb7 hb7' hb6 hb9 K0 p1 p2 p3 hn0 hn1 hn2
  have hTl : (TM.head n0.f0 n0.f1).length + ((n0.f2.map fun k => TM.T (nds7 t) k.toNat).flatten).length + 1 ≤ 100000 := by
    rw [← TM.form_len]
    rw [HTQ.out] at hT
    exact hT
  go_wp2_with fail
  go_loopw [2, 3, 12, 13, 14] (fun v2 v3 v12 v13 v14 wr => ∃ (j : Nat) (TA : Option Addr) (tc : Nat) (OA : Option Addr) (oc : Nat) (out' : List S47), j ≤ n0.f2.length ∧ v14 = .int .i64 j ∧ v2 = .slice TA out'.length tc ∧ v3 = .slice OA out'.length oc ∧
    v12 = .string (strT (TM.head n0.f0 n0.f1 ++ ((n0.f2.take j).map fun k => TM.T (nds7 t) k.toNat).flatten)) ∧ Hid (K7 ok w (TM.kidsOf (TM.shr (nds7 t) m) (n0.f2.take j) (nds7 out)) TA tc OA oc out' v13 wr)) (fun _ _ _ _ v _ => n0.f2.length - (intOf v).toNat)
  case atStart => exact ⟨0, _, _, _, _, _, Nat.zero_le _, rfl, rfl, rfl, by rw [HH.out]; simp, HK0⟩
  case round =>
    clear HK0 HX HBD
    obtain ⟨j, TA', tc', OA', oc', out', hj, rfl, rfl, rfl, rfl, HK⟩ := hrel
    by_cases hlt : j < n0.f2.length
    · obtain ⟨ak, rfl, hck⟩ := Kd.at_int HIK0.out (j : Int) (by omega) (by omega)
      simp only [Int.toNat_natCast] at hck
      replace hck := (HK.out.bw.cell (World.block_lt_of_cell? w _ hck)).trans hck
      have hn2 := (HK.out.bw.cell (World.block_lt_of_cell? w _ HN2.out)).trans HN2.out
      obtain ⟨t1, t2, t3, t4, t5⟩ := TM.kids_take HM.out m q (nds7 out) hq (by rw [nds7_length]; exact hql) HOK.out j
      have hmem : rd n0.f2 j ∈ n0.f2 := rd_mem n0.f2 j hlt
      have hkq := HMQ.out.2 (rd n0.f2 j) (by rw [HQN.out]; exact hmem)
      have htk : n0.f2.take j ++ [rd n0.f2 j] = n0.f2.take (j + 1) := by rw [List.take_succ_eq_append_getElem hlt]; simp [rd, List.getD_eq_getElem?_getD, List.getElem?_eq_getElem hlt]
      have hsn := TM.kidsOf_snoc (TM.shr (nds7 t) m) (rd n0.f2 j) (n0.f2.take j) (nds7 out)
      rw [htk] at hsn
      rw [HQN.out] at t1 t3 t5
      change TM.Ok (TM.kidsOf _ (n0.f2.take j) _).1 at t1
      change (TM.kidsOf _ (n0.f2.take j) _).2.length = (n0.f2.take j).length at t3
      change (TM.kidsOf _ (n0.f2.take j) _).1.length ≤ _ at t5
      rw [nds7_length] at t5
      have hsf : (((n0.f2.take (j + 1)).map fun k => TM.T (nds7 t) k.toNat).flatten).length ≤ ((n0.f2.map fun k => TM.T (nds7 t) k.toNat).flatten).length := by
        rw [List.map_take]; exact flat_take _ _
      have hsj : ((n0.f2.take (j + 1)).map fun k => TM.T (nds7 t) k.toNat).flatten = ((n0.f2.take j).map fun k => TM.T (nds7 t) k.toNat).flatten ++ TM.T (nds7 t) (rd n0.f2 j).toNat := by
        rw [← htk]; simp
      obtain ⟨x, hxx⟩ : ∃ x : Nat, rd n0.f2 j = (x : Int) := ⟨(rd n0.f2 j).toNat, by omega⟩
      rw [hxx] at hck hkq hsn hsj
      simp only [Int.toNat_natCast] at hsn hsj
      rw [← HK.out.r1] at hsn t1
      have hkq2 : x < q := by omega
      have hko : out'.length ≤ out.length + q := by rw [← nds7_length, HK.out.r1]; exact t5
      have hl2 : (n0.f2.take j).length ≤ 64 := by rw [List.length_take]; omega
      have hln : out'.length + load x ≤ 100000000000 := by have := load_lt hkq2 (by omega : q ≤ 100000); omega
      have hr2 := HK.out.r1
      generalize TM.kidsOf (TM.shr (nds7 t) m) (n0.f2.take j) (nds7 out) = r at HK hsn t3 hr2
      have HSN := Lib.hid hsn
      have HT1 := Lib.hid t1
      have HSJ := Lib.hid hsj
      have ht3 : r.2.length ≤ 64 := by omega
      have hTx : (TM.T (nds7 t) x).length ≤ 100000 := by rw [hsj, List.length_append] at hsf; omega
      have hSl : (TM.head n0.f0 n0.f1 ++ ((n0.f2.take j).map fun k => TM.T (nds7 t) k.toNat).flatten).length + (TM.T (nds7 t) x).length ≤ 100000 := by rw [hsj, List.length_append] at hsf; rw [List.length_append]; omega
      rw [← strT_size, ← strT_size (TM.T (nds7 t) x)] at hSl
      generalize hSS : strT (TM.head n0.f0 n0.f1 ++ ((n0.f2.take j).map fun k => TM.T (nds7 t) k.toNat).flatten) = SS at hSl ⊢
      have HSS := Lib.hid hSS
      clear hsn t1 t2 t3 t4 t5 hxx hr2 hkq hmem htk hsj hsf hSS
      go_wp2_with fail
      refine (HIH.out x (by omega) (by omega) hTx _ TA' tc' OA' oc' out' wr (Kd.C_below HC.out HK.out.bw) HK.out.tx HT1.out hln).mono ?_
      rintro e w6 ⟨TB, tb, OB, ob, out2, rfl, hnd2, hx2, hb6⟩
      generalize TM.shr (nds7 t) m x (nds7 out') = r2 at hnd2 HSN ⊢
      generalize hUU : strT (TM.T (nds7 t) x) = UU at hSl ⊢
      have HUU := Lib.hid hUU
      have HK6 := Lib.hid (HK.out.called hx2 hnd2 hb6)
      clear hUU hnd2 hx2 hb6 HK
      have q1 := cat_run SS UU (by omega)
      have hb6s := HK6.out.bw.size
      have hl6 : r.2.length ≤ 17592186044414 := by omega
      go_wp2_with (at_builtin; refine app_ints w.heap.size rfl (.tmp 64) (.tmp 66) rfl _ r.2 (r2.2 : Int) (fun _ => True) rfl rfl (fun _ _ => trivial) HK6.out.kids HK6.out.bw hb6s hl6 ?_; intro v1 w8 hO8 hB8 hg8 hat8)
      have hk8 := HK6.out.grown hO8 hB8 hg8 hat8
      rw [show ((r2.1, r.2 ++ [(r2.2 : Int)]) : List TM.Nd × List Int) = TM.kidsOf (TM.shr (nds7 t) m) (n0.f2.take (j + 1)) (nds7 out) from HSN.out.symm] at hk8
      have HK9 := Lib.hid hk8
      clear hO8 hB8 hg8 hat8 hk8 hSl q1
      go_wp2
      go_roundw
      case rel => exact ⟨j + 1, _, _, _, _, _, by omega, by go_num, rfl, rfl, by rw [← HSS.out, ← HUU.out, strT_append, HSJ.out, List.append_assoc], HK9⟩
      case measure => simp [intOf]; omega
    · obtain rfl : j = n0.f2.length := by omega
      have hrr : TM.kidsOf (TM.shr (nds7 t) m) (n0.f2.take n0.f2.length) (nds7 out) = TM.kidsOf (TM.shr (nds7 t) m) (nd7 n0).2.2 (nds7 out) := by rw [List.take_length]; rfl
      rw [hrr] at HK
      rw [show n0.f2.take n0.f2.length = n0.f2 from List.take_length]
      have hr1 := HK.out.r1
      have s1 := S1.out
      have s2 := S2.out
      have s3 := S3.out
      have s4 := HSHR.out
      have hks := (TM.kids_take HM.out m q (nds7 out) hq (by rw [nds7_length]; exact hql) HOK.out n0.f2.length).2.2.1
      rw [HQN.out] at hks
      change (TM.kidsOf (TM.shr (nds7 t) m) (n0.f2.take n0.f2.length) (nds7 out)).2.length = (n0.f2.take n0.f2.length).length at hks
      have hko := (TM.kids_take HM.out m q (nds7 out) hq (by rw [nds7_length]; exact hql) HOK.out n0.f2.length).2.2.2.2
      rw [HQN.out] at hko
      change (TM.kidsOf (TM.shr (nds7 t) m) (n0.f2.take n0.f2.length) (nds7 out)).1.length ≤ _ at hko
      rw [hrr] at hks hko
      generalize TM.kidsOf (TM.shr (nds7 t) m) (nd7 n0).2.2 (nds7 out) = r at HK hr1 s1 s2 s3 s4 hks hko
      obtain ⟨rn, ks⟩ := r
      subst hr1
      simp only at s1 s2 s3 s4 hks hko
      rw [nds7_length] at s2
      rw [nds7_length, nds7_length] at hko
      change TM.ok out'.length (nd7 ⟨n0.f0, n0.f1, ks⟩) at s2
      change TM.T (nds7 t) q = TM.form n0.f0 n0.f1 _ at s3
      change TM.shr (nds7 t) (m + 1) q (nds7 out) = TM.put (nds7 out') (nd7 ⟨n0.f0, n0.f1, ks⟩) at s4
      have hkl : ks.length ≤ 64 := by rw [List.length_take] at hks; omega
      have hSQ : strT (TM.head n0.f0 n0.f1 ++ (n0.f2.map fun k => TM.T (nds7 t) k.toNat).flatten) ++ ByteArray.mk #[41] = strT (TM.T (nds7 t) q) := by
        rw [show ByteArray.mk #[41] = strT [41] from rfl, strT_append, HTQ.out]
        exact congrArg strT (TM.form_head _ _ _).symm
      have hsl : (TM.head n0.f0 n0.f1 ++ (n0.f2.map fun k => TM.T (nds7 t) k.toNat).flatten).length ≤ 100000 := by rw [List.length_append]; omega
      rw [← strT_size] at hsl
      generalize strT (TM.head n0.f0 n0.f1 ++ (n0.f2.map fun k => TM.T (nds7 t) k.toNat).flatten) = SS at hSQ hsl ⊢
      have q1 := cat_run SS ⟨#[41]⟩ (by change SS.size + 1 ≤ _; omega)
      rw [hSQ] at q1
      have hlen2 : out'.length ≤ 100000200000 := by unfold load at hlen; omega
      have s1' := Lib.hid s1
      have s2' := Lib.hid s2
      have s3' := Lib.hid s3
      have s4' := Lib.hid s4
      clear s1 s2 s3 s4 hks hko hrr hSQ hlt hTl hT HIH HMQ S1 S2 S3 HSHR
      have hn2 := (HK.out.bw.cell (World.block_lt_of_cell? w _ HN2.out)).trans HN2.out
      go_wp2_with fail
      go_loop [17] (fun v => ∃ j : Nat, j ≤ out'.length ∧ v = .int .i64 j ∧ Hid (∀ i, i < j → TM.T (nds7 out') i ≠ TM.T (nds7 t) q)) (fun v => out'.length - (intOf v).toNat)
      case atStart => exact ⟨0, Nat.zero_le _, rfl, Lib.hid (fun i hi => absurd hi (Nat.not_lt_zero i))⟩
      case round =>
        obtain ⟨j, hj, rfl, HNO⟩ := hrel
        by_cases hlt : j < out'.length
        · obtain ⟨at', rfl, hct⟩ := Kd.at_string (Kd.F_now HK.out.tx.tF) (j : Int) (by omega) (by omega)
          simp only [Int.toNat_natCast] at hct
          rw [textsS_at out' j hlt] at hct
          by_cases he : TM.T (nds7 out') j = TM.T (nds7 t) q
          · have hbq : ((strT (TM.T (nds7 out') j)).toList == (strT (TM.T (nds7 t) q)).toList) = true := by rw [str_beq, decide_eq_true he]
            have hput := TM.put_there s1'.out (by rw [nds7_length]; exact s2'.out) (by rw [nds7_length]; exact hlt : j < (nds7 out').length) (he.trans s3'.out)
            have hfin : WalkT t (m + 1) q ok out w (.returned (.tuple #[.string (strT (TM.T (nds7 t) q)), .slice (some at') out'.length tc', .slice OA' out'.length oc', .int .i64 (j : Int)])) wr :=
              ⟨some at', tc', OA', oc', out', by rw [s4'.out, hput], by rw [s4'.out, hput], HK.out.tx.mono fun k hk => hk.1, HK.out.bw⟩
            have HFIN := Lib.hid hfin
            clear hput hfin he
            generalize strT (TM.T (nds7 out') j) = U1 at hct hbq
            generalize strT (TM.T (nds7 t) q) = U2 at hbq HFIN q1 ⊢
            go_wp2_with fail
            (try simp only [Exit.inBlock, Exit.then])
            refine bodyPost_ret (results_tmp4 rfl _ _ _) rfl ?_
            exact HFIN.out
          · have hbq : ((strT (TM.T (nds7 out') j)).toList == (strT (TM.T (nds7 t) q)).toList) = false := by rw [str_beq, decide_eq_false he]
            generalize strT (TM.T (nds7 out') j) = U1 at hct hbq
            have HNO2 : Hid (∀ i, i < j + 1 → TM.T (nds7 out') i ≠ TM.T (nds7 t) q) := Lib.hid fun i hi => by
              by_cases e : i = j
              · subst e; exact he
              · exact HNO.out i (by omega)
            clear he
            generalize strT (TM.T (nds7 t) q) = U2 at hbq q1 ⊢
            go_wp2_with fail
            go_round
            case rel => exact ⟨j + 1, by omega, by go_num, HNO2⟩
            case measure => simp [intOf]; omega
        · obtain rfl : j = out'.length := by omega
          have hput := TM.put_lost (n := nd7 ⟨n0.f0, n0.f1, ks⟩) s1'.out.1 fun i hi => by
            rw [nds7_length] at hi
            have := HNO.out i hi
            rw [s3'.out] at this
            exact this
          have hts := textsS_snoc (n := ⟨n0.f0, n0.f1, ks⟩) s1'.out.1 s2'.out
          simp only at hts
          rw [← s3'.out] at hts
          have hsh : TM.shr (nds7 t) (m + 1) q (nds7 out) = (nds7 (out' ++ [⟨n0.f0, n0.f1, ks⟩]), out'.length) := by
            rw [s4'.out, hput, nds7_length]; simp [nds7]
          have HTS := Lib.hid hts
          have HSH := Lib.hid hsh
          clear hput hts hsh s1' s2' s3' s4' HNO hn2
          obtain ⟨KA, kc, rfl, hkc, _⟩ := Kd.R_reads HK.out.kids
          have htl : (textsS out').length = out'.length := textsS_length out'
          have HTL := Lib.hid htl
          clear htl
          have hbw := HK.out.bw.size
          have hl9 : (([] : List ByteArray).length + out'.length) * 16 ≤ 140737488355328 := by simp; omega
          have hl10 : (([] ++ textsS out').length + 1) * 16 ≤ 140737488355328 := by rw [List.nil_append, HTL.out]; omega
          generalize hU2 : strT (TM.T (nds7 t) q) = U2 at q1 HTS ⊢
          have HU2 := Lib.hid hU2
          clear hU2
          go_wp2_with (first
            | ((with_reducible refine gate_builtin (b := .append) (xs := #[.tmp 86, .tmp 87]) rfl ?_); at_builtin; refine Kd.R_append_row Value.string ByteArray.empty (h1 := fun _ => rfl) (w0 := wr) wr.heap.size rfl (.tmp 86) (.tmp 87) 49 9 (.string ⟨#[]⟩) 16 rfl Tryd.underlying49 info9 rfl (by omega) _ [] (textsS out') TA' out'.length tc' (fun _ => True) rfl rfl (fun _ _ => trivial) (R_emptyK Kd.string 9 wr wr.heap.size _ (Nat.le_refl _) trivial) (Kd.C_alloc (Kd.F_now HK.out.tx.tF) _) (below_alloc (Below.refl _ _) _) (by simp) hl9 ?_; intro v1 w1 hO1 hB1 hg1 hat1; have HO1 := Lib.hid hO1; have HB1 := Lib.hid hB1; have hs1 := hB1.size; clear hO1 hB1 hg1 hat1)
            | ((with_reducible refine gate_builtin (b := .append) (xs := #[.tmp 88, .tmp 90]) rfl ?_); at_builtin; refine Kd.R_append Kd.string (w0 := wr) wr.heap.size rfl (.tmp 88) (.tmp 90) 49 9 (.string ⟨#[]⟩) 16 rfl Tryd.underlying49 info9 rfl (by decide) (by omega) _ ([] ++ textsS out') U2 [.string U2] (fun _ => True) (fun _ => False) rfl rfl rfl (fun _ hk => hk.elim) (fun _ _ => trivial) HO1.out HB1.out hs1 hl10 ?_; intro v2 w2 hO2 hB2 hg2 hat2; have HO2 := Lib.hid hO2; have HB2 := Lib.hid hB2; have hs2 := hB2.size; clear hO2 hB2 hg2 hat2))
          have hw2 : Below w.heap.size w w2 := HK.out.bw.trans (HB2.out.mono HK.out.bw.size)
          have hd2 := below_drew (Below.refl w2.heap.size w2)
          have hd3 := HB2.out.trans (hd2.mono HB2.out.size)
          have hcb0 := cell_w (hw2.trans (hd2.mono hw2.size)) HN0.out
          have hcb1 := cell_w (hw2.trans (hd2.mono hw2.size)) HN1.out
          have HW2 := Lib.hid (hw2.trans (hd2.mono hw2.size))
          have HKID := Lib.hid (Kd.F_mono (ok' := fun k => w.heap.size ≤ k ∧ k < w2.drew.heap.size) (Kd.R_F (Kd.R_bound (Kd.R_below HK.out.kids hd3))) (fun k hk => ⟨hk.2.1, hk.2.2.1⟩))
          have HOF := Lib.hid (Kd.F_mono (ok' := fun k => ok k ∨ w.heap.size ≤ k) (Kd.F_below HK.out.tx.oF hd3) (fun k hk => hk.1))
          have hO2 := HO2.out
          rw [List.nil_append, ← HTS.out] at hO2
          have HT2 := Lib.hid (Kd.R_below hO2 hd2)
          have HD3 := Lib.hid hd3
          have hwsz : w.heap.size ≤ w2.drew.heap.size := (hw2.trans (hd2.mono hw2.size)).size
          have htw : wr.heap.size ≤ w2.drew.heap.size := hd3.size
          have hl40 : (([] : List S47).length + out'.length) * 40 ≤ 140737488355328 := by simp; omega
          have hl41 : (out'.length + 1) * 40 ≤ 140737488355328 := by omega
          clear hw2 hd2 hd3 hO2
          refine start_ (n := 18) (S := fun w' => w'.cell? (ad.add (q * 3)) = some (.int .i64 n0.f0) ∧ w'.cell? ⟨(ad.add (q * 3)).block, (ad.add (q * 3)).off + 1, none⟩ = some (.int .i64 n0.f1)) (ds := []) #[false, false, false, false, false, false, false, false, false, false, false, false, false, false, false, false, false, false] (by kernel_rfl) rfl rfl ⟨hcb0, hcb1⟩ (fun hHeld => ?_)
          generalize w2.drew = w3 at hcb0 hcb1 HW2 HKID HOF HT2 HD3 hwsz htw hHeld ⊢
          refine pure_ (i := 1) (N := some 93) (v := ?_) (a' := ?_) #[false, true, false, false, false, false, false, false, false, false, false, false, false, false, false, false, false, false] rfl rfl (by kernel_rfl) (fun _ _ _ h => h) (Or.inl ⟨by rfl, ?_⟩) ?_ ?_
          rotate_left
          · intro w'
            go_simp
            with_reducible rfl
          rotate_left
          · simp only [Act.put, List.setIfInBounds_toArray, List.set_cons_zero, List.set_cons_succ, i64_w, i32_w]
            rfl
          refine pure_ (i := 3) (N := some 95) (v := ?_) (a' := ?_) #[false, true, false, true, false, false, false, false, false, false, false, false, false, false, false, false, false, false] rfl rfl (by kernel_rfl) (fun _ _ _ h => h) (Or.inl ⟨by rfl, ?_⟩) ?_ ?_
          rotate_left
          · intro w'
            go_simp
            with_reducible rfl
          rotate_left
          · simp only [Act.put, List.setIfInBounds_toArray, List.set_cons_zero, List.set_cons_succ, i64_w, i32_w]
            rfl
          refine pure_ (i := 4) (N := some 96) (v := ?_) (a' := ?_) #[false, true, false, true, true, false, false, false, false, false, false, false, false, false, false, false, false, false] rfl rfl (by kernel_rfl) (fun _ _ _ h => h) (Or.inl ⟨by rfl, ?_⟩) ?_ ?_
          rotate_left
          · intro w'
            go_simp
            with_reducible rfl
          rotate_left
          · simp only [Act.put, List.setIfInBounds_toArray, List.set_cons_zero, List.set_cons_succ, i64_w, i32_w]
            rfl
          refine pure_ (i := 5) (N := some 97) (v := ?_) (a' := ?_) #[false, true, false, true, true, true, false, false, false, false, false, false, false, false, false, false, false, false] rfl rfl (by kernel_rfl) (fun _ _ _ h => h) (Or.inl ⟨by rfl, ?_⟩) ?_ ?_
          rotate_left
          · intro w'
            go_simp
            with_reducible rfl
          rotate_left
          · simp only [Act.put, List.setIfInBounds_toArray, List.set_cons_zero, List.set_cons_succ, i64_w, i32_w]
            rfl
          refine pure_ (i := 6) (N := some 98) (v := ?_) (a' := ?_) #[false, true, false, true, true, true, true, false, false, false, false, false, false, false, false, false, false, false] rfl rfl (by kernel_rfl) (fun _ _ _ h => h) (Or.inl ⟨by rfl, ?_⟩) ?_ ?_
          rotate_left
          · intro w'
            go_simp
            with_reducible rfl
          rotate_left
          · simp only [Act.put, List.setIfInBounds_toArray, List.set_cons_zero, List.set_cons_succ, i64_w, i32_w]
            rfl
          refine pure_ (i := 8) (N := some 100) (v := ?_) (a' := ?_) #[false, true, false, true, true, true, true, false, true, false, false, false, false, false, false, false, false, false] rfl rfl (by kernel_rfl) (fun _ _ _ h => h) (Or.inl ⟨by rfl, ?_⟩) ?_ ?_
          rotate_left
          · intro w'
            go_simp
            with_reducible rfl
          rotate_left
          · simp only [Act.put, List.setIfInBounds_toArray, List.set_cons_zero, List.set_cons_succ, i64_w, i32_w]
            rfl
          refine pure_ (i := 9) (N := some 101) (v := ?_) (a' := ?_) #[false, true, false, true, true, true, true, false, true, true, false, false, false, false, false, false, false, false] rfl rfl (by kernel_rfl) (fun _ _ _ h => h) (Or.inl ⟨by rfl, ?_⟩) ?_ ?_
          rotate_left
          · intro w'
            go_simp
            with_reducible rfl
          rotate_left
          · simp only [Act.put, List.setIfInBounds_toArray, List.set_cons_zero, List.set_cons_succ, i64_w, i32_w]
            rfl
          refine pure_ (i := 10) (N := some 102) (v := ?_) (a' := ?_) #[false, true, false, true, true, true, true, false, true, true, true, false, false, false, false, false, false, false] rfl rfl (by kernel_rfl) (fun _ _ _ h => h) (Or.inl ⟨by rfl, ?_⟩) ?_ ?_
          rotate_left
          · intro w'
            go_simp
            with_reducible rfl
          rotate_left
          · simp only [Act.put, List.setIfInBounds_toArray, List.set_cons_zero, List.set_cons_succ, i64_w, i32_w]
            rfl
          refine pure_ (i := 11) (N := some 103) (v := ?_) (a' := ?_) #[false, true, false, true, true, true, true, false, true, true, true, true, false, false, false, false, false, false] rfl rfl (by kernel_rfl) (fun _ _ _ h => h) (Or.inl ⟨by rfl, ?_⟩) ?_ ?_
          rotate_left
          · intro w'
            go_simp
            with_reducible rfl
          rotate_left
          · simp only [Act.put, List.setIfInBounds_toArray, List.set_cons_zero, List.set_cons_succ, i64_w, i32_w]
            rfl
          refine pure_ (i := 13) (N := some 105) (v := ?_) (a' := ?_) #[false, true, false, true, true, true, true, false, true, true, true, true, false, true, false, false, false, false] rfl rfl (by kernel_rfl) (fun _ _ _ h => h) (Or.inl ⟨by rfl, ?_⟩) ?_ ?_
          rotate_left
          · intro w'
            go_simp
            with_reducible rfl
          rotate_left
          · simp only [Act.put, List.setIfInBounds_toArray, List.set_cons_zero, List.set_cons_succ, i64_w, i32_w]
            rfl
          refine take_ (i := 7) (N := some 99) (v := ?_) (a' := ?_) #[false, true, false, true, true, true, true, true, true, true, true, true, false, true, false, false, false, false] rfl rfl (by kernel_rfl) (fun _ _ _ h => h) (Or.inl ⟨by rfl, ?_⟩) hHeld ?_ ?_
          rotate_left
          · rintro w' ⟨s0, s1⟩
            go_simp
            with_reducible rfl
          rotate_left
          · simp only [Act.put, List.setIfInBounds_toArray, List.set_cons_zero, List.set_cons_succ, i64_w, i32_w]
            rfl
          refine take_ (i := 12) (N := some 104) (v := ?_) (a' := ?_) #[false, true, false, true, true, true, true, true, true, true, true, true, true, true, false, false, false, false] rfl rfl (by kernel_rfl) (fun _ _ _ h => h) (Or.inl ⟨by rfl, ?_⟩) hHeld ?_ ?_
          rotate_left
          · rintro w' ⟨s0, s1⟩
            go_simp
            with_reducible rfl
          rotate_left
          · simp only [Act.put, List.setIfInBounds_toArray, List.set_cons_zero, List.set_cons_succ, i64_w, i32_w]
            rfl
          refine pure_ (i := 14) (N := some 106) (v := ?_) (a' := ?_) #[false, true, false, true, true, true, true, true, true, true, true, true, true, true, true, false, false, false] rfl rfl (by kernel_rfl) (fun _ _ _ h => h) (Or.inl ⟨by rfl, ?_⟩) ?_ ?_
          rotate_left
          · intro w'
            go_simp
            with_reducible rfl
          rotate_left
          · simp only [Act.put, List.setIfInBounds_toArray, List.set_cons_zero, List.set_cons_succ, i64_w, i32_w]
            rfl
          refine join_ (σ := Value × Value × Nat) 2 #[true, true, true, true, true, true, true, true, true, true, true, true, true, true, true, true, false, false] (fun s => [(92, s.1), (94, s.2.1), (107, .slice (some ⟨s.2.2, 0, none⟩) 1 1)]) (fun s w' => Row7 ok w w3 out' (⟨n0.f0, n0.f1, ks⟩ : S47) s.2.1 s.2.2 w') ?_ ?_
          rotate_left
          · intro hCont
            have hba := below_alloc (Below.refl w3.heap.size w3) (.cells #[] 47)
            have hbb := hba.alloc hba.size (.cells #[.int .i64 n0.f0, .int .i64 n0.f1, .slice KA ks.length kc] 47)
            have hbd := below_alloc (Below.refl w3.heap.size w3) (.cells #[.int .i64 n0.f0, .int .i64 n0.f1, .slice KA ks.length kc] 47)
            have hbc := hbd.alloc hbd.size (.cells #[] 47)
            have hnew1 : ∀ W, Below w3.heap.size w3 W → Kd.F k47 (W.alloc (.cells #[.int .i64 n0.f0, .int .i64 n0.f1, .slice KA ks.length kc] 47)) (fun k => (w.heap.size ≤ k ∧ k < w3.heap.size) ∨ k = W.heap.size) (some ⟨W.heap.size, 0, none⟩) 1 [(⟨n0.f0, n0.f1, ks⟩ : S47)] := fun W hb => new_row (row7_FK (n7 := ⟨n0.f0, n0.f1, ks⟩) HKID.out hkc hb)
            have hnew2 : Kd.F k47 ((w3.alloc (.cells #[] 47)).alloc (.cells #[.int .i64 n0.f0, .int .i64 n0.f1, .slice KA ks.length kc] 47)) (fun k => (w.heap.size ≤ k ∧ k < w3.heap.size) ∨ k = w3.heap.size + 1) (some ⟨w3.heap.size + 1, 0, none⟩) 1 [(⟨n0.f0, n0.f1, ks⟩ : S47)] := by
              have h := hnew1 _ hba
              simpa using h
            refine two_ (i := 0) (j := 15) (Ni := some 92) (Nj := some 107) #[true, true, false, true, true, true, true, true, true, true, true, true, true, true, true, false, false, false] #[false, true, false, true, true, true, true, true, true, true, true, true, true, true, true, true, false, false] rfl rfl rfl rfl (by kernel_rfl) (by decide) (by decide) (fun K hK => ?_) (fun K hK => ?_)
            · skip
              refine event_step (w1 := w3.alloc (.cells #[] 47)) (v := .slice (some ⟨w3.heap.size, 0, none⟩) 0 0) (by rfl) (by go_simp) ?_
              refine hK.out _ _ ⟨pw_cell_below hba hcb0, pw_cell_below hba hcb1⟩ (fun hHeld => ?_)
              clear hK K
              refine norm_ (a' := ?_) ?_ ?_
              rotate_left
              · show Act.put _ (some 92) _ = _
                simp only [Act.put, List.setIfInBounds_toArray, List.set_cons_zero, List.set_cons_succ, i64_w, i32_w]
                try rfl
              refine two_ (i := 2) (j := 15) (Ni := some 94) (Nj := some 107) #[true, true, true, true, true, true, true, true, true, true, true, true, true, true, true, false, false, false] #[true, true, false, true, true, true, true, true, true, true, true, true, true, true, true, true, false, false] rfl rfl rfl rfl (by kernel_rfl) (by decide) (by decide) (fun K hK => ?_) (fun K hK => ?_)
              · skip
                refine Kd.N_append_rows_step k47 (w0 := w3) w3.heap.size (by rfl) (.tmp 92) (.tmp 93) 26 47 (.agg #[(.int .i64 0), (.int .i64 0), (.slice none 0 0)]) 40 rfl Tryd.underlying26 info47 rfl (by decide) (by omega) (.slice (some ⟨w3.heap.size, 0, none⟩) 0 0) [] out' OA' out'.length oc' (fun k => ok k ∨ w.heap.size ≤ k) (fun k => (ok k ∨ w.heap.size ≤ k) ∧ k < w3.heap.size) rfl rfl (row_lit w3 w3.heap.size _ (Nat.le_refl _) (.inr hwsz)) (Kd.F_alloc (Kd.F_bound HOF.out) _) (row_okp (by omega)) (row_fresh hwsz hba.size) hba hba.size hl40 ?_
                intro v4 w4 hO4 hB4 hg4 hat4
                refine hK.out _ _ ⟨cell_w hB4 hcb0, cell_w hB4 hcb1⟩ (fun hHeld => ?_)
                clear hK K
                refine norm_ (a' := ?_) ?_ ?_
                rotate_left
                · show Act.put _ (some 94) _ = _
                  simp only [Act.put, List.setIfInBounds_toArray, List.set_cons_zero, List.set_cons_succ, i64_w, i32_w]
                  try rfl
                refine one_ (i := 15) (N := some 107) #[true, true, true, true, true, true, true, true, true, true, true, true, true, true, true, true, false, false] rfl rfl (by kernel_rfl) (by decide) (fun K hK => ?_)
                refine event_step (w1 := w4.alloc (.cells #[.int .i64 n0.f0, .int .i64 n0.f1, .slice KA ks.length kc] 47)) (v := .slice (some ⟨w4.heap.size, 0, none⟩) 1 1) (by rfl) (by go_simp) ?_
                refine hK.out _ _ ⟨cell_w (hB4.alloc hB4.size _) hcb0, cell_w (hB4.alloc hB4.size _) hcb1⟩ (fun hHeld => ?_)
                clear hK K
                refine norm_ (a' := ?_) ?_ ?_
                rotate_left
                · show Act.put _ (some 107) _ = _
                  simp only [Act.put, List.setIfInBounds_toArray, List.set_cons_zero, List.set_cons_succ, i64_w, i32_w]
                  try rfl
                exact norm_ (by first | (simp only [putAll, Act.put, List.setIfInBounds_toArray, List.set_cons_zero, List.set_cons_succ, i64_w, i32_w]; done) | (simp only [putAll, Act.put, List.setIfInBounds_toArray, List.set_cons_zero, List.set_cons_succ, i64_w, i32_w]; rfl)) (hCont (.slice (some ⟨w3.heap.size, 0, none⟩) 0 0, v4, w4.heap.size) _ (row7_a HKID.out hkc hwsz hO4 hB4))
              · skip
                refine event_step (w1 := (w3.alloc (.cells #[] 47)).alloc (.cells #[.int .i64 n0.f0, .int .i64 n0.f1, .slice KA ks.length kc] 47)) (v := .slice (some ⟨w3.heap.size + 1, 0, none⟩) 1 1) (by rfl) (by go_simp) ?_
                refine hK.out _ _ ⟨cell_w hbb hcb0, cell_w hbb hcb1⟩ (fun hHeld => ?_)
                clear hK K
                refine norm_ (a' := ?_) ?_ ?_
                rotate_left
                · show Act.put _ (some 107) _ = _
                  simp only [Act.put, List.setIfInBounds_toArray, List.set_cons_zero, List.set_cons_succ, i64_w, i32_w]
                  try rfl
                refine one_ (i := 2) (N := some 94) #[true, true, true, true, true, true, true, true, true, true, true, true, true, true, true, true, false, false] rfl rfl (by kernel_rfl) (by decide) (fun K hK => ?_)
                refine Kd.N_append_rows_step k47 (w0 := w3) w3.heap.size (by rfl) (.tmp 92) (.tmp 93) 26 47 (.agg #[(.int .i64 0), (.int .i64 0), (.slice none 0 0)]) 40 rfl Tryd.underlying26 info47 rfl (by decide) (by omega) (.slice (some ⟨w3.heap.size, 0, none⟩) 0 0) [] out' OA' out'.length oc' (fun k => ok k ∨ w.heap.size ≤ k) (fun k => (ok k ∨ w.heap.size ≤ k) ∧ k < w3.heap.size) rfl rfl (Kd.N_alloc (row_lit w3 w3.heap.size _ (Nat.le_refl _) (.inr hwsz)) _) (Kd.F_alloc (Kd.F_alloc (Kd.F_bound HOF.out) _) _) (row_okp (by omega)) (row_fresh hwsz hbb.size) hbb hbb.size hl40 ?_
                intro v4 w4 hO4 hB4 hg4 hat4
                refine hK.out _ _ ⟨cell_w hB4 hcb0, cell_w hB4 hcb1⟩ (fun hHeld => ?_)
                clear hK K
                refine norm_ (a' := ?_) ?_ ?_
                rotate_left
                · show Act.put _ (some 94) _ = _
                  simp only [Act.put, List.setIfInBounds_toArray, List.set_cons_zero, List.set_cons_succ, i64_w, i32_w]
                  try rfl
                exact norm_ (by first | (simp only [putAll, Act.put, List.setIfInBounds_toArray, List.set_cons_zero, List.set_cons_succ, i64_w, i32_w]; done) | (simp only [putAll, Act.put, List.setIfInBounds_toArray, List.set_cons_zero, List.set_cons_succ, i64_w, i32_w]; rfl)) (hCont (.slice (some ⟨w3.heap.size, 0, none⟩) 0 0, v4, w3.heap.size + 1) _ (row7_b (g := w3.heap.size) hnew2 rfl (Nat.le_refl _) (Nat.succ_ne_self _) (Nat.le_succ_of_le hwsz) hO4 hB4 hg4 hat4))
            · skip
              refine event_step (w1 := w3.alloc (.cells #[.int .i64 n0.f0, .int .i64 n0.f1, .slice KA ks.length kc] 47)) (v := .slice (some ⟨w3.heap.size, 0, none⟩) 1 1) (by rfl) (by go_simp) ?_
              refine hK.out _ _ ⟨cell_w hbd hcb0, cell_w hbd hcb1⟩ (fun hHeld => ?_)
              clear hK K
              refine norm_ (a' := ?_) ?_ ?_
              rotate_left
              · show Act.put _ (some 107) _ = _
                simp only [Act.put, List.setIfInBounds_toArray, List.set_cons_zero, List.set_cons_succ, i64_w, i32_w]
                try rfl
              refine one_ (i := 0) (N := some 92) #[true, true, false, true, true, true, true, true, true, true, true, true, true, true, true, true, false, false] rfl rfl (by kernel_rfl) (by decide) (fun K hK => ?_)
              refine event_step (w1 := (w3.alloc (.cells #[.int .i64 n0.f0, .int .i64 n0.f1, .slice KA ks.length kc] 47)).alloc (.cells #[] 47)) (v := .slice (some ⟨w3.heap.size + 1, 0, none⟩) 0 0) (by rfl) (by go_simp) ?_
              refine hK.out _ _ ⟨cell_w hbc hcb0, cell_w hbc hcb1⟩ (fun hHeld => ?_)
              clear hK K
              refine norm_ (a' := ?_) ?_ ?_
              rotate_left
              · show Act.put _ (some 92) _ = _
                simp only [Act.put, List.setIfInBounds_toArray, List.set_cons_zero, List.set_cons_succ, i64_w, i32_w]
                try rfl
              refine one_ (i := 2) (N := some 94) #[true, true, true, true, true, true, true, true, true, true, true, true, true, true, true, true, false, false] rfl rfl (by kernel_rfl) (by decide) (fun K hK => ?_)
              refine Kd.N_append_rows_step k47 (w0 := w3) w3.heap.size (by rfl) (.tmp 92) (.tmp 93) 26 47 (.agg #[(.int .i64 0), (.int .i64 0), (.slice none 0 0)]) 40 rfl Tryd.underlying26 info47 rfl (by decide) (by omega) (.slice (some ⟨w3.heap.size + 1, 0, none⟩) 0 0) [] out' OA' out'.length oc' (fun k => ok k ∨ w.heap.size ≤ k) (fun k => (ok k ∨ w.heap.size ≤ k) ∧ k < w3.heap.size) rfl rfl (row_lit1 w3 _ w3.heap.size _ (by omega) (.inr (by omega))) (Kd.F_alloc (Kd.F_alloc (Kd.F_bound HOF.out) _) _) (row_okp (by omega)) (row_fresh hwsz hbc.size) hbc hbc.size hl40 ?_
              intro v4 w4 hO4 hB4 hg4 hat4
              refine hK.out _ _ ⟨cell_w hB4 hcb0, cell_w hB4 hcb1⟩ (fun hHeld => ?_)
              clear hK K
              refine norm_ (a' := ?_) ?_ ?_
              rotate_left
              · show Act.put _ (some 94) _ = _
                simp only [Act.put, List.setIfInBounds_toArray, List.set_cons_zero, List.set_cons_succ, i64_w, i32_w]
                try rfl
              exact norm_ (by first | (simp only [putAll, Act.put, List.setIfInBounds_toArray, List.set_cons_zero, List.set_cons_succ, i64_w, i32_w]; done) | (simp only [putAll, Act.put, List.setIfInBounds_toArray, List.set_cons_zero, List.set_cons_succ, i64_w, i32_w]; rfl)) (hCont (.slice (some ⟨w3.heap.size + 1, 0, none⟩) 0 0, v4, w3.heap.size) _ (row7_b (g := w3.heap.size + 1) (Kd.F_alloc (hnew1 _ (Below.refl _ _)) _) rfl (Nat.le_succ _) (Nat.ne_of_lt (Nat.lt_succ_self _)) hwsz hO4 hB4 hg4 hat4))
          rintro ⟨b0, v4, B⟩ w4 hrow
          refine norm_ (a' := ?_) ?_ ?_
          rotate_left
          · simp only [putAll, Act.put, List.setIfInBounds_toArray, List.set_cons_zero, List.set_cons_succ, i64_w, i32_w]
            try rfl
          refine one_ (i := 16) (N := some 108) #[true, true, true, true, true, true, true, true, true, true, true, true, true, true, true, true, true, false] rfl rfl (by kernel_rfl) (by decide) (fun K hK => ?_)
          refine Kd.N_append_rows_step k47 (w0 := w3) w3.heap.size (by rfl) (.tmp 94) (.tmp 107) 26 47 (.agg #[(.int .i64 0), (.int .i64 0), (.slice none 0 0)]) 40 rfl Tryd.underlying26 info47 rfl (by decide) (by omega) v4 out' [(⟨n0.f0, n0.f1, ks⟩ : S47)] (some ⟨B, 0, none⟩) 1 1 (fun k => ok k ∨ w.heap.size ≤ k) (fun k => (ok k ∨ w.heap.size ≤ k) ∧ some k ≠ v4.ownBlock) rfl rfl hrow.row hrow.new (fun _ h => h) (row_fresh hwsz hrow.bw.size) hrow.bw hrow.bw.size hl41 ?_
          intro v5 w8 hO5 hB5 hg5 hat5
          obtain ⟨A5, c5, hv5, hc5, _⟩ := Kd.N_reads hO5
          rw [show (out' ++ [(⟨n0.f0, n0.f1, ks⟩ : S47)]).length = out'.length + 1 from by simp] at hv5 hc5
          subst hv5
          refine hK.out _ _ ⟨cell_w hB5 hcb0, cell_w hB5 hcb1⟩ (fun hHeld => ?_)
          clear hK K
          refine norm_ (a' := ?_) ?_ ?_
          rotate_left
          · show Act.put _ (some 108) _ = _
            simp only [Act.put, List.setIfInBounds_toArray, List.set_cons_zero, List.set_cons_succ, i64_w, i32_w]
            try rfl
          refine pure_ (i := 17) (N := some 3) (v := ?_) (a' := ?_) #[true, true, true, true, true, true, true, true, true, true, true, true, true, true, true, true, true, true] rfl rfl (by kernel_rfl) (fun _ _ _ h => h) (Or.inl ⟨by rfl, ?_⟩) ?_ ?_
          rotate_left
          · intro w'
            go_simp
            with_reducible rfl
          rotate_left
          · simp only [Act.put, List.setIfInBounds_toArray, List.set_cons_zero, List.set_cons_succ, i64_w, i32_w]
            rfl
          refine done_ (by kernel_rfl) ?_
          go_wp2_with fail
          refine bodyPost_ret (results_tmp4 rfl _ _ _) rfl ?_
          have hle : (out' ++ [(⟨n0.f0, n0.f1, ks⟩ : S47)]).length = out'.length + 1 := by simp
          obtain ⟨TB, tb, hv2, htb, _⟩ := Kd.R_reads HT2.out
          rw [textsS_length, hle] at hv2 htb
          have hT3 := Kd.R_bound HT2.out
          rw [hv2] at hT3
          have hTF := Kd.F_below (Kd.F_mono (ok' := fun k => ok k ∨ w.heap.size ≤ k) (Kd.R_F hT3) (fun k hk => .inr (Nat.le_trans hbw hk.2.1))) hB5
          refine ⟨TB, tb, A5, c5, out' ++ [⟨n0.f0, n0.f1, ks⟩], ?_, by rw [HSH.out], ⟨by rw [hle]; exact hTF, by rw [hle]; exact htb, by rw [hle]; exact Kd.N_F hO5, by rw [hle]; exact hc5⟩, HW2.out.trans (hB5.mono HW2.out.size)⟩
          show Ending.returned (.tuple #[.string U2, v2, .slice A5 (out'.length + 1) c5, .int .i64 (out'.length : Int)]) = _
          rw [hle, HSH.out, HU2.out, hv2]

theorem walk7_any (A : Option Addr) (c : Nat) (t : List S47) (hlc : t.length ≤ c) (hm : TM.Mays (nds7 t)) (hl : t.length ≤ 100000) : ∀ m, WalkSaid7 A c t m := by
  intro m
  induction m with
  | zero => intro q hq; omega
  | succ m ih =>
    intro q hq hql hT ok TA tc OA oc out w hC hx hok hlen
    exact walk7_step A c t hlc hm hl m q ih (by omega) hql hT ok TA tc OA oc out w hC hx hok hlen
end Go.Proofs.YtlgnogpjmdhflaaDoor
