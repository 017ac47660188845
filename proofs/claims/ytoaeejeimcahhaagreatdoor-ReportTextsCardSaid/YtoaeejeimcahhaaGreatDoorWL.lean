/- What report.line answers for any edit. -/
import Derived.Test.YtoaeejeimcahhaaGreatDoorWQ
import Derived.Tactics2
import Derived.Deep.RegionHeld3
import Derived.Deep.DeepCutAuto
import Derived.Lib.ItoaLen
section
set_option linter.unusedVariables false
namespace Go.Proofs.YtoaeejeimcahhaaGreatDoor
open Go.Shelf Go.RowKit Go.Sort
theorem below_drewN (B : Nat) (w : World) (k : Nat) : Below B w (w.drewN k) := ⟨rfl, rfl, rfl, Nat.le_refl _, fun _ _ => rfl⟩
theorem grow_below (w : World) (k : Nat) (os : Array Obj) : Below w.heap.size w (grow (w.drewN k) os) := by
  have h := below_drewN w.heap.size w k
  refine ⟨h.os, h.tape, h.output, ?_, fun j hj => ?_⟩
  · have := h.size; simp only [grow, Array.size_append]; omega
  · simp only [grow]
    rw [Array.getElem?_append_left (Nat.lt_of_lt_of_le hj h.size)]
    exact h.block j hj
theorem itoa_any (n : Int) (h0 : -9223372036854775808 ≤ n) (h1 : n ≤ 9223372036854775807) (w : World) (htab : Lib.TabIs Tryz.prog w "internal/strconv.uint64pow10" .u64 Lib.pow10Tab) :
    Calls Tryz.prog 32 #[.int .i64 n] w fun e w' => e = .returned (.string ⟨(Lib.itoa n).toArray⟩) ∧ Below w.heap.size w w' :=
  (Tryz.strconv_Itoa n h0 h1 w htab).mono fun e w' ⟨he, k, os, hw⟩ => ⟨he, by rw [hw]; exact grow_below w k os⟩
/-- an edit's cells -/
def ecells (f0 f1 f2 f3 f4 : Int) (f5 f6 : ByteArray) : Array Value := #[.int .i64 f0, .int .i64 f1, .int .i64 f2, .int .i64 f3, .int .i64 f4, .string f5, .string f6]
/-- behind the box -/
structure EB (w : World) (cs : Array Value) (wr : World) : Prop where
  below : Below w.heap.size w wr
  box : wr.heap[w.heap.size]? = some (.cells cs 37 (0, 0))
  tab : Lib.TabIs Tryz.prog wr "internal/strconv.uint64pow10" .u64 Lib.pow10Tab
theorem tab_below {w w' : World} (h : Lib.TabIs Tryz.prog w "internal/strconv.uint64pow10" .u64 Lib.pow10Tab) (hb : Below w.heap.size w w') : Lib.TabIs Tryz.prog w' "internal/strconv.uint64pow10" .u64 Lib.pow10Tab := by
  unfold Lib.TabIs World.var? at h ⊢
  cases hg : Tryz.prog.globalNamed "internal/strconv.uint64pow10" with
  | none => rw [hg] at h; cases h
  | some g =>
    rw [hg] at h
    simp only [Option.bind_some] at h ⊢
    have hlt : g < w.heap.size := by
      rcases Nat.lt_or_ge g w.heap.size with h' | h'
      · exact h'
      · rw [Array.getElem?_eq_none h'] at h; cases h
    rw [hb.block g hlt]
    exact h
theorem EB.step {w : World} {cs : Array Value} {wr w' : World} (h : EB w cs wr) (hb : Below wr.heap.size wr w') : EB w cs w' := by
  obtain ⟨h1, h2, h3⟩ := h
  have hlt : w.heap.size < wr.heap.size := by
    rcases Nat.lt_or_ge w.heap.size wr.heap.size with h' | h'
    · exact h'
    · rw [Array.getElem?_eq_none h'] at h2; cases h2
  exact ⟨h1.trans (hb.mono h1.size), by rw [hb.block _ hlt]; exact h2, tab_below h3 hb⟩
theorem EB.cell {w : World} {cs : Array Value} {wr : World} (h : EB w cs wr) (i : Nat) : wr.cell? ⟨w.heap.size, i, none⟩ = cs[i]? := by
  obtain ⟨h1, h2, h3⟩ := h
  simp [World.cell?, h2]
theorem EB.drew {w : World} {cs : Array Value} {wr : World} (h : EB w cs wr) : EB w cs wr.drew :=
  ⟨h.below.drew, h.box, tab_below h.tab (Below.drew (Below.refl _ _))⟩
theorem EB.s23 {w : World} {f0 f1 f2 f3 f4 : Int} {f5 f6 : ByteArray} {wr : World} (h : EB w #[.int .i64 f0, .int .i64 f1, .int .i64 f2, .int .i64 f3, .int .i64 f4, .string f5, .string f6] wr) :
    EB w #[.int .i64 f0, .int .i64 f1, .int .i64 f2, .int .i64 f3, .int .i64 f4, .string f5, .string f6] wr ∧ wr.cell? ⟨w.heap.size, 2, none⟩ = some (.int .i64 f2) ∧ wr.cell? ⟨w.heap.size, 3, none⟩ = some (.int .i64 f3) :=
  ⟨h, (h.cell 2).trans rfl, (h.cell 3).trans rfl⟩
theorem EB.s56 {w : World} {f0 f1 f2 f3 f4 : Int} {f5 f6 : ByteArray} {wr : World} (h : EB w #[.int .i64 f0, .int .i64 f1, .int .i64 f2, .int .i64 f3, .int .i64 f4, .string f5, .string f6] wr) :
    EB w #[.int .i64 f0, .int .i64 f1, .int .i64 f2, .int .i64 f3, .int .i64 f4, .string f5, .string f6] wr ∧ wr.cell? ⟨w.heap.size, 5, none⟩ = some (.string f5) ∧ wr.cell? ⟨w.heap.size, 6, none⟩ = some (.string f6) :=
  ⟨h, (h.cell 5).trans rfl, (h.cell 6).trans rfl⟩
theorem size_mk (l : List UInt8) : (⟨l.toArray⟩ : ByteArray).size = l.length := by show l.toArray.size = _; simp
/-- how long a text is, in the walk's spellings -/
structure Len (a b : Nat) (t : ByteArray) : Prop where
  l1 : ¬ 9223372036854775807 < a + t.size
  l2 : ¬ 9223372036854775807 < a + t.size + b
  l3 : a + t.size + b ≤ 1000000000000
  l4 : ∀ m : Nat, m ≤ 1000000000000 → ¬ 9223372036854775807 < m + t.size
theorem Len.of {a b : Nat} {t : ByteArray} (h : t.size ≤ 5000000000) (ha : a ≤ 100) (hb : b ≤ 100) : Len a b t := ⟨by omega, by omega, by omega, fun m hm => by omega⟩
theorem itoa_eb {w : World} {cs : Array Value} {wr : World} (h : EB w cs wr) (n : Int) (h0 : -9223372036854775808 ≤ n) (h1 : n ≤ 9223372036854775807) :
    Calls Tryz.prog 32 #[.int .i64 n] wr fun e w' => ∃ t : ByteArray, e = .returned (.string t) ∧ Hid (t = ⟨(Lib.itoa n).toArray⟩) ∧ t.size ≤ 21 ∧ EB w cs w' :=
  (itoa_any n h0 h1 wr h.tab).mono fun e w' he => ⟨_, he.1, Lib.hid rfl, by have := Lib.itoa_length_le n h0 h1; rw [size_mk]; exact this, h.step he.2⟩
theorem quoted_len (l : List UInt8) : (quotedL l).length ≤ 4 * l.length + 2 := by
  have := flat_len l
  unfold quotedL
  simp only [List.length_cons, List.length_append, List.length_nil]
  omega
theorem quoted_eb {w : World} {cs : Array Value} {wr : World} (h : EB w cs wr) (s : ByteArray) (hs : s.size ≤ 1000000000) :
    Calls Tryz.prog 33 #[.string s] wr fun e w' => ∃ t : ByteArray, e = .returned (.string t) ∧ Hid (t = ⟨(quotedL s.data.toList).toArray⟩) ∧ t.size ≤ 4000000002 ∧ EB w cs w' :=
  (quoted_any s wr hs).mono fun e w' he => ⟨_, he.1, Lib.hid rfl, by
    have h1 := quoted_len s.data.toList
    have h2 : s.data.toList.length = s.size := by simp
    have h3 := size_mk (quotedL s.data.toList)
    rw [h3]; omega, h.step he.2⟩
def itoaB (n : Int) : ByteArray := ⟨(Lib.itoa n).toArray⟩
def quotedB (s : ByteArray) : ByteArray := ⟨(quotedL s.data.toList).toArray⟩
def underB (f2 f3 : Int) : ByteArray := ⟨#[32, 117, 110, 100, 101, 114, 32]⟩ ++ itoaB f2 ++ ⟨#[32, 97, 102, 116, 101, 114, 32]⟩ ++ itoaB f3
def textsB (f5 f6 : ByteArray) : ByteArray := ⟨#[32, 116, 101, 120, 116, 32]⟩ ++ quotedB f5 ++ ⟨#[32, 116, 114, 97, 105, 108, 32]⟩ ++ quotedB f6
def lineB (f0 f1 f2 f3 f4 : Int) (f5 f6 : ByteArray) : ByteArray :=
  if f0 = 1 then ⟨#[105, 110, 115, 101, 114, 116, 32]⟩ ++ itoaB f1 ++ ⟨#[32, 107, 105, 110, 100, 32]⟩ ++ itoaB f4 ++ underB f2 f3 ++ textsB f5 f6 ++ ⟨#[10]⟩
  else if f0 = 2 then ⟨#[100, 101, 108, 101, 116, 101, 32]⟩ ++ itoaB f1 ++ ⟨#[10]⟩
  else if f0 = 3 then ⟨#[117, 112, 100, 97, 116, 101, 32]⟩ ++ itoaB f1 ++ textsB f5 f6 ++ ⟨#[10]⟩
  else if f0 = 4 then ⟨#[109, 111, 118, 101, 32]⟩ ++ itoaB f1 ++ underB f2 f3 ++ ⟨#[10]⟩
  else ⟨#[]⟩
theorem lineB1 {f0 f1 f2 f3 f4 : Int} {f5 f6 : ByteArray} (h : (f0 == 1) = true) : lineB f0 f1 f2 f3 f4 f5 f6 = ⟨#[105, 110, 115, 101, 114, 116, 32]⟩ ++ itoaB f1 ++ ⟨#[32, 107, 105, 110, 100, 32]⟩ ++ itoaB f4 ++ underB f2 f3 ++ textsB f5 f6 ++ ⟨#[10]⟩ := by
  unfold lineB; rw [if_pos (by simpa using h)]
theorem lineB2 {f0 f1 f2 f3 f4 : Int} {f5 f6 : ByteArray} (h : (f0 == 1) = false) (h2 : (f0 == 2) = true) : lineB f0 f1 f2 f3 f4 f5 f6 = ⟨#[100, 101, 108, 101, 116, 101, 32]⟩ ++ itoaB f1 ++ ⟨#[10]⟩ := by
  unfold lineB; rw [if_neg (by simpa using h), if_pos (by simpa using h2)]
theorem lineB3 {f0 f1 f2 f3 f4 : Int} {f5 f6 : ByteArray} (h : (f0 == 1) = false) (h2 : (f0 == 2) = false) (h3 : (f0 == 3) = true) : lineB f0 f1 f2 f3 f4 f5 f6 = ⟨#[117, 112, 100, 97, 116, 101, 32]⟩ ++ itoaB f1 ++ textsB f5 f6 ++ ⟨#[10]⟩ := by
  unfold lineB; rw [if_neg (by simpa using h), if_neg (by simpa using h2), if_pos (by simpa using h3)]
theorem lineB4 {f0 f1 f2 f3 f4 : Int} {f5 f6 : ByteArray} (h : (f0 == 1) = false) (h2 : (f0 == 2) = false) (h3 : (f0 == 3) = false) (h4 : (f0 == 4) = true) : lineB f0 f1 f2 f3 f4 f5 f6 = ⟨#[109, 111, 118, 101, 32]⟩ ++ itoaB f1 ++ underB f2 f3 ++ ⟨#[10]⟩ := by
  unfold lineB; rw [if_neg (by simpa using h), if_neg (by simpa using h2), if_neg (by simpa using h3), if_pos (by simpa using h4)]
theorem lineB5 {f0 f1 f2 f3 f4 : Int} {f5 f6 : ByteArray} (h : (f0 == 1) = false) (h2 : (f0 == 2) = false) (h3 : (f0 == 3) = false) (h4 : (f0 == 4) = false) : lineB f0 f1 f2 f3 f4 f5 f6 = ⟨#[]⟩ := by
  unfold lineB; rw [if_neg (by simpa using h), if_neg (by simpa using h2), if_neg (by simpa using h3), if_neg (by simpa using h4)]
set_option maxRecDepth 100000 in
set_option maxHeartbeats 2000000 in
theorem line_any (f0 f1 f2 f3 f4 : Int) (f5 f6 : ByteArray) (w : World) (htab : Lib.TabIs Tryz.prog w "internal/strconv.uint64pow10" .u64 Lib.pow10Tab)
    (r1 : -9223372036854775808 ≤ f1) (q1 : f1 ≤ 9223372036854775807) (r2 : -9223372036854775808 ≤ f2) (q2 : f2 ≤ 9223372036854775807) (r3 : -9223372036854775808 ≤ f3) (q3 : f3 ≤ 9223372036854775807) (r4 : -9223372036854775808 ≤ f4) (q4 : f4 ≤ 9223372036854775807)
    (s5 : f5.size ≤ 1000000000) (s6 : f6.size ≤ 1000000000) :
    Calls Tryz.prog 18 #[.agg (ecells f0 f1 f2 f3 f4 f5 f6)] w fun e w' => e = .returned (.string (lineB f0 f1 f2 f3 f4 f5 f6)) ∧ Below w.heap.size w w' := by
  have h0 : EB w (ecells f0 f1 f2 f3 f4 f5 f6) (w.alloc (.cells (ecells f0 f1 f2 f3 f4 f5 f6) 37 (0, 0))) :=
    ⟨(Below.refl _ _).alloc (Nat.le_refl _) _, heap_alloc_new _ _, tab_below htab ((Below.refl _ _).alloc (Nat.le_refl _) _)⟩
  unfold ecells at h0 ⊢
  have H0 := Lib.hid h0
  have IT := Lib.hid (fun (wr : World) (h : EB w #[.int .i64 f0, .int .i64 f1, .int .i64 f2, .int .i64 f3, .int .i64 f4, .string f5, .string f6] wr) (n : Int) (h0 : -9223372036854775808 ≤ n) (h1 : n ≤ 9223372036854775807) => itoa_eb h n h0 h1)
  have QT := Lib.hid (fun (wr : World) (h : EB w #[.int .i64 f0, .int .i64 f1, .int .i64 f2, .int .i64 f3, .int .i64 f4, .string f5, .string f6] wr) (s : ByteArray) (hs : s.size ≤ 1000000000) => quoted_eb h s hs)
  clear h0
  go_enter Tryz.func18, Tryz.ntmps18
  go_wp2_with (go_at_call 32; refine (itoa_eb H0.out _ r1 q1).mono ?_; rintro e w1 ⟨t1, rfl, ht1, hs1, hb1⟩)
  have c2 := hb1.cell 2
  have c3 := hb1.cell 3
  simp at c2 c3
  go_region_held3 (fun wr => EB w #[.int .i64 f0, .int .i64 f1, .int .i64 f2, .int .i64 f3, .int .i64 f4, .string f5, .string f6] wr ∧ wr.cell? ⟨w.heap.size, 2, none⟩ = some (.int .i64 f2) ∧ wr.cell? ⟨w.heap.size, 3, none⟩ = some (.int .i64 f3))
    (first | (refine EB.s23 ?_; assumption) | (refine EB.s23 (EB.drew ?_); assumption) | assumption | (refine EB.drew ?_; assumption) | (refine (EB.cell ?_ _).trans ?_; assumption; rfl))
    (first | (go_at_call 32; refine (IT.out _ ?_ _ ?_ ?_).mono ?_; (first | assumption | (refine EB.drew ?_; assumption)); assumption; assumption; rintro e w' ⟨t, rfl, ht, hts, hb⟩; obtain ⟨g1, g2, g3, g4⟩ := Len.of (a := 7) (b := 7) (t := t) (Nat.le_trans hts (by decide)) (by decide) (by decide)))
  rename_i w2 t2 ht2 hts2 hb2 p1 p2 p3 p4 hHeld
  obtain ⟨u, hu⟩ : ∃ u, u = (⟨#[32, 117, 110, 100, 101, 114, 32]⟩ : ByteArray) ++ t2 ++ ⟨#[32, 97, 102, 116, 101, 114, 32]⟩ ++ t := ⟨_, rfl⟩
  have hus : u.size ≤ 100 := by rw [hu]; simp only [ByteArray.size_append]; show 7 + t2.size + 7 + t.size ≤ 100; omega
  have HU := Lib.hid (show u = underB f2 f3 by rw [hu, ht2.out, ht.out]; rfl)
  rw [← hu]
  clear hu p1 p2 p3 p4 g1 g2 g3 g4 hHeld hts hts2 hb2
  rename_i c2o c3o
  go_wp2
  go_region_held3 (fun wr => EB w #[.int .i64 f0, .int .i64 f1, .int .i64 f2, .int .i64 f3, .int .i64 f4, .string f5, .string f6] wr ∧ wr.cell? ⟨w.heap.size, 5, none⟩ = some (.string f5) ∧ wr.cell? ⟨w.heap.size, 6, none⟩ = some (.string f6))
    (first | (refine EB.s56 ?_; assumption) | (refine EB.s56 (EB.drew ?_); assumption) | assumption | (refine EB.drew ?_; assumption) | (refine (EB.cell ?_ _).trans ?_; assumption; rfl))
    (first | (go_at_call 33; refine (QT.out _ ?_ _ ?_).mono ?_; (first | assumption | (refine EB.drew ?_; assumption)); assumption; rintro e w' ⟨t, rfl, ht, hts, hb⟩; obtain ⟨g1, g2, g3, g4⟩ := Len.of (a := 6) (b := 7) (t := t) (Nat.le_trans hts (by decide)) (by decide) (by decide)))
  rename_i w4 t5 ht5 hts5 hb5 p1 p2 p3 p4 hHeld
  obtain ⟨v, hv⟩ : ∃ v, v = (⟨#[32, 116, 101, 120, 116, 32]⟩ : ByteArray) ++ t5 ++ ⟨#[32, 116, 114, 97, 105, 108, 32]⟩ ++ t := ⟨_, rfl⟩
  have hvs : v.size ≤ 9000000000 := by rw [hv]; simp only [ByteArray.size_append]; show 6 + t5.size + 7 + t.size ≤ 9000000000; omega
  have HV := Lib.hid (show v = textsB f5 f6 by rw [hv, ht5.out, ht.out]; rfl)
  rw [← hv]
  clear hv p1 p2 p3 p4 g1 g2 g3 g4 hHeld hts hts5 hb5
  have HT1 := Lib.hid (show t1 = itoaB f1 from ht1.out)
  have k1 : ¬ 9223372036854775807 < 7 + t1.size := by omega
  have k2 : ¬ 9223372036854775807 < 7 + t1.size + 6 := by omega
  have k3 : ¬ 9223372036854775807 < 7 + t1.size + 1 := by omega
  have k4 : ¬ 9223372036854775807 < 7 + t1.size + v.size := by omega
  have k5 : ¬ 9223372036854775807 < 7 + t1.size + v.size + 1 := by omega
  have k6 : ¬ 9223372036854775807 < 5 + t1.size := by omega
  have k7 : ¬ 9223372036854775807 < 5 + t1.size + u.size := by omega
  have k8 : ¬ 9223372036854775807 < 5 + t1.size + u.size + 1 := by omega
  have c0 := (hb.cell 0).trans rfl
  have c4 := (hb.cell 4).trans rfl
  have HB := Lib.hid hb
  clear hb hb1 ht5 ht ht1
  go_wp2_with fail
  · refine (IT.out _ HB.out _ r4 q4).mono ?_
    rintro e w6 ⟨t4, rfl, ht4, hs4, hb6⟩
    have HT4 := Lib.hid (show t4 = itoaB f4 from ht4.out)
    have HB6 := Lib.hid hb6
    clear hb6 ht4
    have m1 : ¬ 9223372036854775807 < 7 + t1.size + 6 + t4.size := by omega
    have m2 : ¬ 9223372036854775807 < 7 + t1.size + 6 + t4.size + u.size := by omega
    have m3 : ¬ 9223372036854775807 < 7 + t1.size + 6 + t4.size + u.size + v.size := by omega
    have m4 : ¬ 9223372036854775807 < 7 + t1.size + 6 + t4.size + u.size + v.size + 1 := by omega
    go_wp2_with fail
    go_ret
    refine ⟨?_, HB6.out.below⟩
    rw [lineB1 (by assumption), ← HT1.out, ← HT4.out, ← HU.out, ← HV.out]
    rfl
  · go_ret
    refine ⟨?_, HB.out.below⟩
    rw [lineB2 (by assumption) (by assumption), ← HT1.out]
    rfl
  · go_ret
    refine ⟨?_, HB.out.below⟩
    rw [lineB3 (by assumption) (by assumption) (by assumption), ← HT1.out, ← HV.out]
    rfl
  · go_ret
    refine ⟨?_, HB.out.below⟩
    rw [lineB4 (by assumption) (by assumption) (by assumption) (by assumption), ← HT1.out, ← HU.out]
    rfl
  · go_ret
    refine ⟨?_, HB.out.below⟩
    rw [lineB5 (by assumption) (by assumption) (by assumption) (by assumption)]
    rfl
end Go.Proofs.YtoaeejeimcahhaaGreatDoor
end
