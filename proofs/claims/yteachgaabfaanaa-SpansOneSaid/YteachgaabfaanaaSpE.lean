/- Spans: slices.Sort, slices.Compact, slices.Collect, slices.Sorted at own rows; Of. -/
import Derived.Test.YteachgaabfaanaaSpD
import Derived.Test.YteachgaabfaanaaShelf
import Derived.Sort.OwnSortedInts
namespace Go.Proofs.Yteachgaabfaanaa
open Go.RowKit Go.Shelf Go.Sort Go.Proofs.YteachgaabfaanaaW.PrintWords Go.Proofs.YteachgaabfaanaaW.PrintLast Go.Proofs.YteachgaabfaanaaW.PrintMore Go.Proofs.Yteachgaabfaanaa.PRef
set_option linter.unusedVariables false
set_option linter.unusedSimpArgs false
attribute [local go_sem] Oper.semAt_some

abbrev IR (w : World) (base : Nat) (ok : Nat → Prop) (v : Value) (zs : List Int) : Prop := (Kd.int .i64).R 3 w base ok v zs
theorem IR_own {w : World} {base : Nat} {ok : Nat → Prop} {v : Value} {zs : List Int} (h : IR w base ok v zs) : w.ownsRow base 3 1 v zs.length (zs.map (Value.int .i64)) := Kd.own_of_R h
theorem IR_of {w : World} {base : Nat} {ok : Nat → Prop} {v : Value} {zs : List Int} (h : w.ownsRow base 3 1 v zs.length (zs.map (Value.int .i64))) (hok : ∀ k, v.ownBlock = some k → ok k) : IR w base ok v zs := Kd.R_of_own h hok
theorem sortM_length (zs : List Int) : (SM.sortM zs).length = zs.length := by unfold SM.sortM; exact List.length_mergeSort _
theorem cup_length (d : Array Int) : ∀ m, (Lib.compactUpTo d m).length ≤ m := by
  intro m
  induction m with
  | zero => simp [Lib.compactUpTo]
  | succ m ih =>
    rw [Lib.compactUpTo_succ, List.length_append]
    split <;> simp <;> omega
theorem compact_length (zs : List Int) : (Lib.compact zs).length ≤ zs.length := cup_length _ _

/-- slices.Sort at an own row. -/
theorem sort_calls (base : Nat) (ok : Nat → Prop) (v : Value) (zs : List Int) (w : World) (HO : IR w base ok v zs) (hl : zs.length ≤ 1000000) :
    Calls Try.prog 29 #[v] w fun e w' => e = .returned (.tuple #[]) ∧ IR w' base ok v (SM.sortM zs) ∧ w.grownBy w' v.ownBlock := by
  have ho := IR_own HO
  rcases ho.2 with ⟨rfl, hz⟩ | ⟨g, cap, cur, rfl, hbase, hg, h1, h2, h3, h4⟩
  · have hz' : zs = [] := List.eq_nil_of_length_eq_zero (by simpa using hz)
    subst hz'
    refine (Try.slices_Sort_int_none none 0 w).mono ?_
    rintro e w' ⟨rfl, rfl⟩
    exact ⟨rfl, by simpa [SM.sortM] using HO, World.grownBy.refl _ _⟩
  · rw [Nat.mul_one] at h4
    refine (Try.slices_Sort_int g 0 cap zs w (holds_of_blockI hg h4) (Array.getElem?_eq_some_iff.1 hg).1 (by omega)).mono ?_
    rintro e w' ⟨rfl, n, os, rfl⟩
    have hs := ownsRow_sortedI (n := n) (os := os) (sortM_length zs) hbase hg h1 h2 h3
    rw [← sortM_length zs] at hs ⊢
    refine ⟨rfl, IR_of hs ?_, grownBy_sortedI _⟩
    intro k hk
    exact HO.1 k hk

/-- slices.Compact at an own row. -/
theorem compact_calls (base : Nat) (ok : Nat → Prop) (v : Value) (zs : List Int) (w : World) (HO : IR w base ok v zs) (hl : zs.length ≤ 1000000) :
    Calls Try.prog 30 #[v] w fun e w' => ∃ v', e = .returned v' ∧ IR w' base ok v' (Lib.compact zs) ∧ w.grownBy w' v.ownBlock ∧ v'.ownBlock = v.ownBlock := by
  have ho := IR_own HO
  by_cases hz : zs = []
  · subst hz
    obtain ⟨A, c, rfl, hc, _⟩ := Kd.R_reads HO
    refine (Try.slices_Compact_int_empty A c w).mono ?_
    rintro e w' ⟨rfl, rfl⟩
    exact ⟨_, rfl, HO, World.grownBy.refl _ _, rfl⟩
  · rcases ho.2 with ⟨rfl, hz'⟩ | ⟨g, cap, cur, rfl, hbase, hg, h1, h2, h3, h4⟩
    · exact absurd (List.eq_nil_of_length_eq_zero (by simpa using hz')) hz
    · rw [Nat.mul_one] at h4
      refine (Try.slices_Compact_int g 0 cap zs w (holds_of_blockI hg h4) (by omega) h1).mono ?_
      rintro e w' ⟨rfl, q, rfl⟩
      have hcl := compact_length zs
      have hlen : (Lib.compact zs ++ List.replicate (zs.length - (Lib.compact zs).length) 0).length = zs.length := by simp; omega
      have hgr : ∀ W : World, grow W #[] = W := fun W => by simp [grow]
      have hs := ownsRow_sortedI (n := q) (os := #[]) hlen hbase hg h1 h2 h3
      have hgb := grownBy_sortedI (w := w) (g := g) (n := q) (os := #[]) (Lib.compact zs ++ List.replicate (zs.length - (Lib.compact zs).length) (0 : Int)).toArray
      rw [hgr] at hs hgb
      refine ⟨_, rfl, IR_of ?_ ?_, hgb, rfl⟩
      · rcases hs.2 with ⟨h', _⟩ | ⟨g', cap', cur', he, b1, b2, b3, b4, b5, b6⟩
        · cases h'
        · cases he
          refine ⟨by simp, .inr ⟨g, cap, cur', rfl, b1, b2, by omega, b4, b5, ?_⟩⟩
          rw [Nat.mul_one] at b6 ⊢
          have : (cur'.toList.take zs.length).take (Lib.compact zs).length = cur'.toList.take (Lib.compact zs).length := by
            rw [List.take_take, Nat.min_eq_left hcl]
          rw [← this, b6, List.map_append, List.take_append_of_le_length (by simp), ← List.map_take, List.take_length]
      · intro k hk
        exact HO.1 k hk

set_option maxRecDepth 100000 in
set_option maxHeartbeats 2000000 in
theorem collect_calls (Bs cap : Nat) (A : Option Addr) (zs : List Int) (w0 w : World) (hC : Kd.C (Kd.int .i64) w0 A zs.length zs) (hl : zs.length ≤ 1000000) (hB : Below w0.heap.size w0 w) (hBs : Bs < w.heap.size)
    (hc : w.cell? ⟨Bs, 0, none⟩ = some (.slice A zs.length cap)) :
    Calls Try.prog 31 #[.func (.func 32) #[] #[.pointer (some ⟨Bs, 0, none⟩)]] w fun e W' => ∃ v, e = .returned v ∧ IR W' w.heap.size (fun _ => True) v zs ∧ Below w.heap.size w W' := by
  go_enter Try.func31, Try.ntmps31
  go_wp2_with fail
  refine (callsIn_wide.1 (appendSeq_in Fence.wide 3 trivial trivial rfl (Nat.le_refl _) Bs cap A zs w0 w hC hl hB hBs hc)).mono ?_
  rintro e w' ⟨v, rfl, hown, hb⟩
  go_wp2
  go_ret
  exact ⟨v, rfl, IR_of hown (fun _ _ => trivial), hb⟩

set_option maxRecDepth 100000 in
set_option maxHeartbeats 2000000 in
theorem sorted_calls (Bs cap : Nat) (A : Option Addr) (zs : List Int) (w0 w : World) (hC : Kd.C (Kd.int .i64) w0 A zs.length zs) (hl : zs.length ≤ 1000000) (hB : Below w0.heap.size w0 w) (hBs : Bs < w.heap.size)
    (hc : w.cell? ⟨Bs, 0, none⟩ = some (.slice A zs.length cap)) :
    Calls Try.prog 25 #[.func (.func 32) #[] #[.pointer (some ⟨Bs, 0, none⟩)]] w fun e W' => ∃ v, e = .returned v ∧ IR W' w.heap.size (fun _ => True) v (SM.sortM zs) ∧ Below w.heap.size w W' := by
  go_enter Try.func25, Try.ntmps25
  go_wp2_with fail
  refine (collect_calls Bs cap A zs w0 w hC hl hB hBs hc).mono ?_
  rintro e w1 ⟨v, rfl, hI, hb⟩
  go_wp2_with fail
  refine (sort_calls _ _ v zs w1 hI hl).mono ?_
  rintro e w2 ⟨rfl, hI2, hg⟩
  go_wp2
  go_ret
  exact ⟨v, rfl, hI2, hb.grown hg hb.size (fun k hk => Kd.R_base hI k hk)⟩
end Go.Proofs.Yteachgaabfaanaa
