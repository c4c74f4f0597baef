/- Spans: awake: its literals. -/
import Derived.Test.YteachgaabfaanaaSpI
namespace Go.Proofs.Yteachgaabfaanaa
open Go.RowKit Go.Proofs.YteachgaabfaanaaW.PrintWords Go.Proofs.YteachgaabfaanaaW.PrintLast Go.Proofs.YteachgaabfaanaaW.PrintMore Go.Proofs.Yteachgaabfaanaa.PRef
set_option linter.unusedVariables false
set_option linter.unusedSimpArgs false

theorem eq_of (a : List SM.Sp) (b : List S40) (ha : SM.Right a) (hb : rightB b = true) (h : ∀ v, SM.inB a v = SM.inB (sps b) v) : unsps a = b := by
  rw [SM.right_unique ha ((rightB_iff b).1 hb) h]
  exact unsps_sps b
def L0 : List S40 := [⟨1, 3⟩, ⟨7, 7⟩]
theorem inB_lit (l : List S40) (v : Int) : SM.inB (sps l) v = l.any fun s => decide (s.f0 ≤ v) && decide (v ≤ s.f1) := by
  unfold SM.inB sps
  rw [List.any_map]
  rfl
theorem of_L0 : SM.ofOk [3, 1, 2, 7] = true ∧ unsps (SM.ofM (SM.sortM [3, 1, 2, 7])) = L0 := by
  have h : SM.ofOk [3, 1, 2, 7] = true := by decide
  refine ⟨h, eq_of _ _ (SM.of_spec h).1 (by decide) fun v => ?_⟩
  rw [(SM.of_spec h).2 v, inB_lit]
  rw [Bool.eq_iff_iff]
  simp [L0]
  omega
theorem parts_lit (j : Nat) (hj : K3 j false false = false) (a b r : List S40) (ha : rightB a = true) (hb : rightB b = true) (hr : rightB r = true) (h : ∀ v, K3 j (SM.inB (sps a) v) (SM.inB (sps b) v) = SM.inB (sps r) v) : partsB (K3 j) a b = r := by
  unfold partsB
  rw [ha, hb]
  have hs := SM.partsM_spec ((rightB_iff a).1 ha) ((rightB_iff b).1 hb) (K3 j) hj
  exact eq_of _ _ hs.1 hr fun v => by rw [hs.2 v]; exact h v
theorem less_L : partsB (K3 2) [⟨1, 9⟩] [⟨3, 4⟩] = [⟨1, 2⟩, ⟨5, 9⟩] := by
  refine parts_lit 2 rfl _ _ _ (by decide) (by decide) (by decide) fun v => ?_
  rw [inB_lit, inB_lit, inB_lit, Bool.eq_iff_iff]
  simp [K3]
  omega
theorem union_L : partsB (K3 0) L0 [⟨4, 6⟩] = [⟨1, 7⟩] := by
  refine parts_lit 0 rfl _ _ _ (by decide) (by decide) (by decide) fun v => ?_
  rw [inB_lit, inB_lit, inB_lit, Bool.eq_iff_iff]
  simp [K3, L0]
  omega
theorem meet_L : partsB (K3 1) L0 [⟨3, 9⟩] = [⟨3, 3⟩, ⟨7, 7⟩] := by
  refine parts_lit 1 rfl _ _ _ (by decide) (by decide) (by decide) fun v => ?_
  rw [inB_lit, inB_lit, inB_lit, Bool.eq_iff_iff]
  simp [K3, L0]
  omega
theorem at_L3 : spans_At.f 20 L0 3 = some (7, true) := by kernel_rfl
theorem at_L4 : spans_At.f 20 L0 4 = some (0, false) := by kernel_rfl
theorem same_t (a : List S40) (hl : a.length ≤ 1000000) : ∃ k, stratagemref03_Same.f k a a = some true := by
  obtain ⟨k, q, h, hq⟩ := sameF a a hl
  rw [hq.2 rfl] at h
  exact ⟨k, h⟩
theorem lit_row (w : World) (l : List S40) (cs : Array Value) (hcs : cs = (cellsOf l).toArray) (n : Nat) (hn : n = l.length) (hl : l.length ≤ 1000) : Kd.C k40 (w.alloc (.cells cs 40)) (some ⟨w.heap.size, 0, none⟩) l.length l := by
  subst hcs
  have h2 := World.ownsRow_lit (base := 0) (e := 40) (size := 2) w (cellsOf l).toArray l.length (Nat.zero_le _) (by unfold maxLen; omega) (by simpa using cellsOf_length l)
  simp only [List.toList_toArray] at h2
  exact (Kd.R_reads' (R_of40 (ok := fun _ => True) h2 (fun _ _ => trivial))).2.2
theorem int_row (w : World) (zs : List Int) (cs : Array Value) (hcs : cs = (zs.map (Value.int .i64)).toArray) (hl : zs.length ≤ 1000) : Kd.C (Kd.int .i64) (w.alloc (.cells cs 3)) (some ⟨w.heap.size, 0, none⟩) zs.length zs := by
  subst hcs
  have h2 := World.ownsRow_lit (base := 0) (e := 3) (size := 1) w (zs.map (Value.int .i64)).toArray zs.length (Nat.zero_le _) (by unfold maxLen; omega) (by simp)
  simp only [List.toList_toArray] at h2
  exact (Kd.R_reads' (IR_of (ok := fun _ => True) h2 (fun _ _ => trivial))).2.2
end Go.Proofs.Yteachgaabfaanaa
