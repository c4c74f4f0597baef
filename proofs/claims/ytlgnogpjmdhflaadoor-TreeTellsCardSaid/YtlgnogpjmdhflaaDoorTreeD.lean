/- The text of a node of tree: which bytes it comes to. -/
import Derived.Test.YtlgnogpjmdhflaaDoorTreeC
import Derived.Test.YtlgnogpjmdhflaaDoorShelf
import Derived.Lib.Builder
import Derived.Lib.AppendStr
import Derived.Deep.RegionHeld3
import Derived.WalkSmall
namespace Go.Proofs.YtlgnogpjmdhflaaDoor
open Go.RowKit Go.Proofs.YtlgnogpjmdhflaaDoorW.PrintWords Go.Proofs.YtlgnogpjmdhflaaDoorW.PrintLast Go.Proofs.YtlgnogpjmdhflaaDoorW.PrintMore Go.Proofs.YtlgnogpjmdhflaaDoor.PRef
set_option linter.unusedVariables false
set_option linter.unusedSimpArgs false

/-! ### strings.Builder -/
theorem infoBuilder : (Tryd.prog.info? 72).map (·.size) = some 2 := by kernel_rfl
theorem liesBuilder : liesAt Tryd.prog Tryd.prog.depth 72 (2 / Tryd.prog.cellsOf 72) 0 72 1 = true := by kernel_rfl

set_option maxHeartbeats 1000000 in
set_option maxRecDepth 100000 in
theorem copyCheck_used (b : Nat) (w : World) (h0 : w.cell? ⟨b, 0, none⟩ = some (.pointer (some ⟨b, 0, none⟩))) :
    Calls Tryd.prog 43 #[.pointer (some ⟨b, 0, none⟩)] w fun e w' => e = .returned (.tuple #[]) ∧ w = w' := by
  obtain ⟨j, hj, _⟩ := Option.map_eq_some_iff.1 infoBuilder
  go_enter Tryd.func43, Tryd.ntmps43
  go_wp2
  rw [Lib.run_neq_ptr_same w _ Tryd.underlying69 hj]
  go_wp2
  go_end0
  exact ⟨rfl, rfl⟩

set_option maxHeartbeats 1000000 in
set_option maxRecDepth 100000 in
theorem copyCheck_fresh (b : Nat) (w : World) (h0 : w.cell? ⟨b, 0, none⟩ = some (.pointer none)) (hsh : w.shape? b = some (72, 2)) (hfz : w.frozen? ⟨b, 0, none⟩ = false) :
    Calls Tryd.prog 43 #[.pointer (some ⟨b, 0, none⟩)] w fun e w' => e = .returned (.tuple #[]) ∧ w' = w.setCell ⟨b, 0, none⟩ (.pointer (some ⟨b, 0, none⟩)) := by
  obtain ⟨j, hj, hjs⟩ := Option.map_eq_some_iff.1 infoBuilder
  go_enter Tryd.func43, Tryd.ntmps43
  go_wp2
  rw [Lib.run_to_unsafe w ⟨b, 0, none⟩ Tryd.underlying69 Tryd.underlying80 hj (by rw [hjs]; decide) hsh (Nat.zero_lt_succ 1)]
  simp only [Result.andThen]
  rw [Oper.upon_value]
  go_wp2
  rw [run_callFunc_extern Tryd.func45 (by kernel_rfl) (by kernel_rfl) (by kernel_rfl) (e := Extern.AbiNoEscape.same) (by kernel_rfl)]
  rw [Lib.run_noEscape]
  simp only [Result.andThen]
  rw [Oper.upon_value]
  go_wp2
  rw [Lib.run_from_unsafe w ⟨b, 0, none⟩ Tryd.underlying80 Tryd.underlying69 hj hsh liesBuilder]
  simp only [Result.andThen]
  rw [Oper.upon_value]
  go_wp2
  go_end0
  exact ⟨rfl, rfl⟩

theorem copyCheck_any (B b : Nat) (bs : List Value) (w : World) (h : Lib.IsBuilder 72 5 B b bs w) :
    Calls Tryd.prog 43 #[.pointer (some ⟨b, 0, none⟩)] w fun e w' => e = .returned (.tuple #[]) ∧ (Lib.BuilderAt 72 5 B b (.pointer (some ⟨b, 0, none⟩)) bs w' ∧ Below B w w') := by
  rcases h with h | h
  · refine (copyCheck_fresh b w h.cell0 h.shape h.frozen0).mono ?_
    rintro e w' ⟨rfl, rfl⟩
    exact ⟨rfl, h.used _, (Below.refl B w).setCell (p := ⟨b, 0, none⟩) h.1 _⟩
  · refine (copyCheck_used b w h.cell0).mono ?_
    rintro e w' ⟨rfl, rfl⟩
    exact ⟨rfl, h, Below.refl B _⟩

set_option maxHeartbeats 1000000 in
set_option maxRecDepth 100000 in
theorem writeString_any (B b : Nat) (l : List UInt8) (s : ByteArray) (w : World) (h : Lib.IsBuilder 72 5 B b (Lib.byteCells l) w) (hlen : l.length + s.size ≤ 140737488355328) (hBw : B ≤ w.heap.size) :
    Calls Tryd.prog 39 #[.pointer (some ⟨b, 0, none⟩), .string s] w fun e w' => e = .returned (.tuple #[.int .i64 s.size, .nilIface]) ∧ (Lib.IsBuilder 72 5 B b (Lib.byteCells (l ++ s.data.toList)) w' ∧ Below B w w') := by
  obtain ⟨i0, hi, hz0, hz1, hz2⟩ := info_parts info5
  have hlen2 : (Lib.byteCells l).length + s.size ≤ 140737488355328 := by rw [Lib.byteCells_length]; exact hlen
  go_enter Tryd.func39, Tryd.ntmps39
  go_wp2_with fail
  refine (copyCheck_any B b _ _ h).mono ?_
  rintro e w1 ⟨rfl, h1, hb1⟩
  obtain ⟨hB, v, hbk, hown, hne⟩ := h1
  have c0 : w1.cell? ⟨b, 0, none⟩ = some (.pointer (some ⟨b, 0, none⟩)) := by rw [Lib.cell_of_heap hbk]; rfl
  have c1 : w1.cell? ⟨b, 1, none⟩ = some v := by rw [Lib.cell_of_heap hbk]; rfl
  have hs1 := hb1.size
  go_wp2_with (at_builtin; refine Lib.wpList_append_own_string _ rfl _ _ 70 9 rfl B 5 i0 Tryd.underlying70 Tryd.underlying9 hi hz0 hz1 hz2 _ _ _ rfl hown s rfl ?c3 ?c4 ?c5 ?_)
  case c3 => unfold maxLen; omega
  case c4 => omega
  case c5 => omega
  intro v' w2 hown' hgrow _
  have hlt : b < w1.heap.size := by
    rcases Nat.lt_or_ge b w1.heap.size with h' | h'
    · exact h'
    · simp [Array.getElem?_eq_none h'] at hbk
  have hb2 : w2.heap[b]? = some (.cells #[.pointer (some ⟨b, 0, none⟩), v] 72 (0, 0)) := by
    rw [hgrow.block b hlt (fun e => hne e.symm)]
    exact hbk
  have d0 : w2.cell? ⟨b, 0, none⟩ = some (.pointer (some ⟨b, 0, none⟩)) := by rw [Lib.cell_of_heap hb2]; rfl
  have d1 : w2.cell? ⟨b, 1, none⟩ = some v := by rw [Lib.cell_of_heap hb2]; rfl
  have f1 : w2.frozen? ⟨b, 1, none⟩ = false := Lib.frozen_of_heap hb2 1
  obtain ⟨ao, n', cap, rfl⟩ : ∃ ao n' cap, v' = .slice ao n' cap := by
    rcases hown'.2 with ⟨hv, _⟩ | ⟨g, cap, cur, hv, _⟩
    · exact ⟨_, _, _, hv⟩
    · exact ⟨_, _, _, hv⟩
  go_wp2
  go_ret2
  refine ⟨rfl, .inr ?_, ?_⟩
  · have e1 : Lib.byteCells (l ++ s.data.toList) = Lib.byteCells l ++ Lib.strCells s := by simp [Lib.byteCells, Lib.strCells]
    rw [e1]
    exact Lib.BuilderAt.put (T := 72) (e := 5) hB hb2 (bs' := Lib.byteCells l ++ Lib.strCells s) (by simpa [Lib.strCells_length] using hown') (by decide)
  · exact (hb1.grown hgrow (by omega) (fun k hk => (hown.lt k hk).1)).setCell (p := ⟨b, 1, none⟩) hB _

/-! ### A number's text -/
def Tab (w : World) : Prop := Lib.TabIs Tryd.prog w "internal/strconv.uint64pow10" .u64 Lib.pow10Tab
theorem tabNamed : Tryd.prog.globalNamed "internal/strconv.uint64pow10" = some 0 := by kernel_rfl
theorem Tab.lt {w : World} (h : Tab w) : 0 < w.heap.size := by
  unfold Tab Lib.TabIs World.var? at h
  rw [tabNamed] at h
  rcases Nat.lt_or_ge 0 w.heap.size with h' | h'
  · exact h'
  · simp [Array.getElem?_eq_none h'] at h
theorem Tab.later {w w' : World} {B : Nat} (h : Tab w) (hB : w.heap.size ≤ B) (hb : Below B w w') : Tab w' := var?_below hb tabNamed (Nat.lt_of_lt_of_le h.lt hB) h

/-- A number's text, as a string. -/
def itoaS (n : Int) : ByteArray := ⟨(Lib.itoa n).toArray⟩
theorem itoaS_list (n : Int) : (itoaS n).data.toList = Lib.itoa n := by simp [itoaS]
theorem itoaS_size (n : Int) : (itoaS n).size = (Lib.itoa n).length := by simp [itoaS, ByteArray.size]
theorem str_list (a b : ByteArray) : (a ++ b).data.toList = a.data.toList ++ b.data.toList := by simp
theorem cat_run (a b : ByteArray) (h : a.size + b.size ≤ 9223372036854775807) : ∀ W, (Op.stringOp .add a b).run Tryd.prog W = .ok (.string (a ++ b)) W := fun W => run_string_add_sum W a b h

theorem itoa_any (n : Int) (h0 : -9223372036854775808 ≤ n) (h1 : n ≤ 9223372036854775807) (w : World) (ht : Tab w) :
    Calls Tryd.prog 40 #[.int .i64 n] w fun e w' => e = .returned (.string (itoaS n)) ∧ Below w.heap.size w w' := by
  refine (Tryd.strconv_Itoa n h0 h1 w ht).mono ?_
  rintro e w' ⟨rfl, k, os, rfl⟩
  refine ⟨rfl, ?_⟩
  have h1 := pw_below_drewN (Below.refl w.heap.size w) k
  exact ⟨h1.os, h1.tape, h1.output, by simp [Sort.grow], fun i hi => by
    rw [← h1.block i hi]
    simp only [Sort.grow]
    rw [Array.getElem?_append_left (by have := h1.size; omega)]⟩

theorem dec_len : ∀ (k u : Nat), u < 10 ^ (k + 1) → (Lib.decDigits u).length ≤ k + 1 := by
  intro k
  induction k with
  | zero => intro u h; rw [Lib.decDigits, dif_pos (by omega)]; simp
  | succ k ih =>
    intro u h
    rw [Lib.decDigits]
    split
    · simp
    · rw [List.length_append]
      have := ih (u / 10) (by rw [Nat.pow_succ] at h; omega)
      simp
      omega
theorem itoa_len (n : Int) (h0 : 0 ≤ n) (h1 : n ≤ 9223372036854775807) : (Lib.itoa n).length ≤ 20 := by
  unfold Lib.itoa
  rw [if_neg (by omega)]
  exact dec_len 19 n.toNat (by omega)

/-- The text of a node. -/
def kidTxt (ks : List Int) : List UInt8 := ks.flatMap fun k => 32 :: Lib.itoa k
def headTxt (n : S46) : List UInt8 := Lib.itoa n.f0 ++ 32 :: Lib.itoa n.f1
def txt (n : S46) : List UInt8 := headTxt n ++ kidTxt n.f2
/-- A node whose numbers are none below 0, of few kids. -/
def Plainly (n : S46) : Prop := (0 ≤ n.f0 ∧ n.f0 ≤ 9223372036854775807) ∧ (0 ≤ n.f1 ∧ n.f1 ≤ 9223372036854775807) ∧ n.f2.length ≤ 64 ∧ ∀ k ∈ n.f2, 0 ≤ k ∧ k ≤ 9223372036854775807

theorem kidTxt_take (ks : List Int) (j : Nat) (h : j < ks.length) : kidTxt (ks.take (j + 1)) = kidTxt (ks.take j) ++ (32 :: Lib.itoa (rd ks j)) := by
  unfold kidTxt
  rw [List.take_succ_eq_append_getElem h, List.flatMap_append]
  simp [rd, List.getD_eq_getElem?_getD, List.getElem?_eq_getElem h]
theorem kidTxt_len (ks : List Int) (h : ∀ k ∈ ks, 0 ≤ k ∧ k ≤ 9223372036854775807) : (kidTxt ks).length ≤ 21 * ks.length := by
  induction ks with
  | nil => simp [kidTxt]
  | cons a l ih =>
    have h1 := ih fun k hk => h k (by simp [hk])
    have h2 := itoa_len a (h a (by simp)).1 (h a (by simp)).2
    unfold kidTxt at h1 ⊢
    simp only [List.flatMap_cons, List.length_append, List.length_cons]
    omega

/-- What holds while a node's text is written: the node lies in its box, the builder behind it holds l. -/
structure TInv (w0 : World) (n : S46) (A : Option Addr) (c : Nat) (l : List UInt8) (w : World) : Prop where
  below : Below w0.heap.size w0 w
  size : w0.heap.size + 2 ≤ w.heap.size
  c0 : w.cell? ⟨w0.heap.size, 0, none⟩ = some (.int .i64 n.f0)
  c1 : w.cell? ⟨w0.heap.size, 1, none⟩ = some (.int .i64 n.f1)
  c2 : w.cell? ⟨w0.heap.size, 2, none⟩ = some (.slice A n.f2.length c)
  bld : Lib.IsBuilder 72 5 (w0.heap.size + 1) (w0.heap.size + 1) (Lib.byteCells l) w

theorem builderAt_below {T e B b : Nat} {p : Value} {bs : List Value} {w w' : World} (h : Lib.BuilderAt T e B b p bs w) (hb : Below w.heap.size w w') : Lib.BuilderAt T e B b p bs w' := by
  obtain ⟨hB, v, hbk, hown, hne⟩ := h
  exact ⟨hB, v, (hb.block b (Lib.BuilderAt.lt ⟨hB, v, hbk, hown, hne⟩)).trans hbk, pw_own_below hown hb, hne⟩
theorem TInv.step {w0 w w' : World} {n : S46} {A : Option Addr} {c : Nat} {l : List UInt8} (h : TInv w0 n A c l w) (hb : Below w.heap.size w w') : TInv w0 n A c l w' :=
  ⟨h.below.trans (hb.mono h.below.size), Nat.le_trans h.size hb.size, pw_cell_below hb h.c0, pw_cell_below hb h.c1, pw_cell_below hb h.c2, h.bld.imp (fun k => builderAt_below k hb) (fun k => builderAt_below k hb)⟩
theorem TInv.drew {w0 w : World} {n : S46} {A : Option Addr} {c : Nat} {l : List UInt8} (h : TInv w0 n A c l w) : TInv w0 n A c l w.drew :=
  ⟨below_drew h.below, h.size, h.c0, h.c1, h.c2, h.bld⟩
theorem TInv.write {w0 w w' : World} {n : S46} {A : Option Addr} {c : Nat} {l l' : List UInt8} (h : TInv w0 n A c l w) (hb : Below (w0.heap.size + 1) w w') (h' : Lib.IsBuilder 72 5 (w0.heap.size + 1) (w0.heap.size + 1) (Lib.byteCells l') w') : TInv w0 n A c l' w' :=
  ⟨h.below.trans (hb.mono (by omega)), Nat.le_trans h.size hb.size, (hb.cell (p := ⟨w0.heap.size, 0, none⟩) (by simp)).trans h.c0, (hb.cell (p := ⟨w0.heap.size, 1, none⟩) (by simp)).trans h.c1, (hb.cell (p := ⟨w0.heap.size, 2, none⟩) (by simp)).trans h.c2, h'⟩
theorem TInv.start (w0 : World) (n : S46) (A : Option Addr) (c : Nat) : TInv w0 n A c [] ((w0.alloc (.cells #[.int .i64 n.f0, .int .i64 n.f1, .slice A n.f2.length c] 46)).alloc (.cells #[.pointer none, .slice none 0 0] 72)) := by
  have hb := below_alloc (below_alloc (Below.refl w0.heap.size w0) (.cells #[.int .i64 n.f0, .int .i64 n.f1, .slice A n.f2.length c] 46)) (.cells #[.pointer none, .slice none 0 0] 72)
  have hc : ∀ j v, (#[Value.int .i64 n.f0, .int .i64 n.f1, .slice A n.f2.length c] : Array Value)[j]? = some v → ((w0.alloc (.cells #[.int .i64 n.f0, .int .i64 n.f1, .slice A n.f2.length c] 46)).alloc (.cells #[.pointer none, .slice none 0 0] 72)).cell? ⟨w0.heap.size, j, none⟩ = some v := by
    intro j v hj
    rw [World.cell?_alloc_lt _ _ _ (by simp)]
    rw [cell_of_row _ w0.heap.size j _ _ (0, 0) (heap_alloc_new w0 _)]
    exact hj
  refine ⟨hb, by simp, hc 0 _ rfl, hc 1 _ rfl, hc 2 _ rfl, ?_⟩
  have h := Lib.fresh_isBuilder 72 5 (w0.alloc (.cells #[.int .i64 n.f0, .int .i64 n.f1, .slice A n.f2.length c] 46))
  have e : (w0.alloc (.cells #[.int .i64 n.f0, .int .i64 n.f1, .slice A n.f2.length c] 46)).heap.size = w0.heap.size + 1 := by simp
  rw [e] at h
  exact h

set_option maxHeartbeats 2000000 in
set_option maxRecDepth 100000 in
theorem text_any (n : S46) (A : Option Addr) (c : Nat) (w : World) (hp : Plainly n) (hr : (Kd.int .i64).C w A n.f2.length n.f2) (hc : n.f2.length ≤ c) (ht : Tab w) :
    Calls Tryd.prog 31 #[.agg #[.int .i64 n.f0, .int .i64 n.f1, .slice A n.f2.length c]] w fun e w' => e = .returned (.string ⟨(txt n).toArray⟩) ∧ Below w.heap.size w w' := by
  obtain ⟨⟨p00, p01⟩, ⟨p10, p11⟩, hk64, hks⟩ := hp
  have HR := Lib.hid hr
  have HT := Lib.hid ht
  have HKS := Lib.hid hks
  have htlt := ht.lt
  have hI := TInv.start w n A c
  have hl0 : (itoaS n.f0).size ≤ 20 := by rw [itoaS_size]; exact itoa_len n.f0 p00 p01
  have hl1 : (itoaS n.f1).size ≤ 20 := by rw [itoaS_size]; exact itoa_len n.f1 p10 p11
  have z1 : (⟨#[32]⟩ : ByteArray).size = 1 := rfl
  have q1 := cat_run (itoaS n.f0) ⟨#[32]⟩ (by omega)
  have q2 := cat_run (itoaS n.f0 ++ ⟨#[32]⟩) (itoaS n.f1) (by rw [ByteArray.size_append]; omega)
  have hls : (itoaS n.f0 ++ ⟨#[32]⟩ ++ itoaS n.f1).size ≤ 41 := by rw [ByteArray.size_append, ByteArray.size_append]; omega
  have hh : headTxt n = (itoaS n.f0 ++ ⟨#[32]⟩ ++ itoaS n.f1).data.toList := by simp [headTxt, itoaS]
  clear hr ht hks z1
  go_enter Tryd.func31, Tryd.ntmps31
  go_wp2_with fail
  generalize ((w.alloc (.cells #[.int .i64 n.f0, .int .i64 n.f1, .slice A n.f2.length c] 46)).alloc (.cells #[.pointer none, .slice none 0 0] 72)) = W0 at hI ⊢
  have HI := Lib.hid hI.drew
  clear hI
  have HH := Lib.hid hh
  have HLS := Lib.hid hls
  clear hh hls
  have hsz := HI.out.size
  go_region_held3 (fun w' => w'.cell? ⟨w.heap.size, 0, none⟩ = some (.int .i64 n.f0) ∧ w'.cell? ⟨w.heap.size, 1, none⟩ = some (.int .i64 n.f1)) (exact ⟨HI.out.c0, HI.out.c1⟩)
    (first
      | (go_at_call 40; refine (itoa_any _ (by omega) (by omega) _ (HT.out.later (Nat.le_refl _) HI.out.below)).mono ?_; rintro e w1 ⟨rfl, hb1⟩; replace HI := Lib.hid (HI.out.step hb1); clear hb1)
      | (go_at_call 39; refine (writeString_any (w.heap.size + 1) (w.heap.size + 1) [] _ _ HI.out.bld (by have := HLS.out; simp only [List.length_nil]; omega) (by have := HI.out.size; omega)).mono ?_; rintro e w2 ⟨rfl, hbl2, hb2⟩; replace HI := Lib.hid (HI.out.write hb2 hbl2); clear hb2 hbl2))
  rw [← HH.out, List.nil_append] at HI
  have hlh : (headTxt n).length ≤ 41 := by rw [HH.out, data_length]; exact HLS.out
  clear p00 p01 p10 p11 hl0 hl1 HH HLS htlt hsz
  have hc2 := HI.out.c2
  have hm := HR.out.2.1
  go_wp2_with fail
  go_loopw [5, 18] (fun _ v wr => ∃ j : Nat, j ≤ n.f2.length ∧ v = .int .i64 j ∧ Hid (TInv w n A c (headTxt n ++ kidTxt (n.f2.take j)) wr)) (fun _ v _ => n.f2.length - (intOf v).toNat)
  case atStart => exact ⟨0, Nat.zero_le _, rfl, Lib.hid (by rw [List.take_zero]; simpa [kidTxt] using HI.out)⟩
  case round =>
    obtain ⟨j, hj, rfl, HJ⟩ := hrel
    by_cases hlt : j < n.f2.length
    · obtain ⟨ad, rfl, hck⟩ := Kd.at_int HR.out (j : Int) (by omega) (by omega)
      simp only [Int.toNat_natCast] at hck
      replace hck := (HJ.out.below.cell (World.block_lt_of_cell? w _ hck)).trans hck
      have hk2 := kidTxt_take n.f2 j hlt
      have hlj := kidTxt_len (n.f2.take j) (fun k hk => HKS.out k (List.mem_of_mem_take hk))
      have hlt2 : (n.f2.take j).length ≤ 64 := by rw [List.length_take]; omega
      obtain ⟨hx0, hx1⟩ := HKS.out _ (rd_mem n.f2 j hlt)
      generalize rd n.f2 j = x at hck hk2 hx0 hx1
      have hls : (itoaS x).size ≤ 20 := by rw [itoaS_size]; exact itoa_len x hx0 hx1
      have z1 : (⟨#[32]⟩ : ByteArray).size = 1 := rfl
      have q1 := cat_run ⟨#[32]⟩ (itoaS x) (by omega)
      have hls2 : (⟨#[32]⟩ ++ itoaS x).size ≤ 21 := by rw [ByteArray.size_append]; omega
      have hh : (⟨#[32]⟩ ++ itoaS x).data.toList = 32 :: Lib.itoa x := by simp [itoaS]
      have HH := Lib.hid hh
      have HLS2 := Lib.hid hls2
      have HK2 := Lib.hid hk2
      clear hh hls2 hk2 z1
      go_wp2_with fail
      refine (itoa_any _ (by omega) hx1 _ (HT.out.later (Nat.le_refl _) HJ.out.below)).mono ?_
      rintro e w1 ⟨rfl, hb1⟩
      have HJ1 := Lib.hid (HJ.out.step hb1)
      have hz1 := HJ1.out.size
      clear hb1
      go_wp2_with fail
      refine (writeString_any (w.heap.size + 1) (w.heap.size + 1) _ _ _ HJ1.out.bld (by have := HLS2.out; rw [List.length_append]; omega) (by omega)).mono ?_
      rintro e w2 ⟨rfl, hbl2, hb2⟩
      have HJ2 := Lib.hid (HJ1.out.write hb2 hbl2)
      clear hb2 hbl2
      go_wp2
      go_roundw
      case rel => exact ⟨j + 1, by omega, by go_num, Lib.hid (by have := HJ2.out; rw [HK2.out]; rw [HH.out, List.append_assoc] at this; exact this)⟩
      case measure => simp [intOf]; omega
    · obtain rfl : j = n.f2.length := by omega
      rw [List.take_length] at HJ
      have hz1 := HJ.out.size
      go_wp2_with fail
      refine (Tryd.Builder_String_any (w.heap.size + 1) (w.heap.size + 1) _ _ HJ.out.bld (by omega)).mono ?_
      rintro e w1 ⟨rfl, hb1⟩
      have hb : Below w.heap.size w w1 := HJ.out.below.trans (hb1.mono (by omega))
      go_wp2
      go_ret
      exact ⟨rfl, hb⟩
end Go.Proofs.YtlgnogpjmdhflaaDoor
